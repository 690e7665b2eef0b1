/- Joined texts: TypF, TypG, TypH, EvA. -/
import Derived.Test.YtlfjjokcbeaekaaGreatDoorB29

/- types: Term, Form. -/
namespace Go.Chalk
open Go.RowKit
theorem SlIn.lt {w : World} {xs : List D} {x : SlA} {B C : Nat} (h : SlIn w (· < B) xs x) (hC : B ≤ C) : SlIn w (· < C) xs x := h.mono (fun _ hk => Nat.lt_of_lt_of_le hk hC)
structure TrmFit (t : Trm) : Prop where
  kind : I64 t.kind
  name : t.name.length ≤ 4000000
  n : I64 t.n
theorem Trm.fine {t : Trm} (h : TrmFit t) : t.toD.fine := ⟨h.kind.wf, by rw [D.fine, bs_size]; have := h.name; unfold maxLen; omega, h.n.wf, trivial⟩
/-- The form that types.Term checks. -/
def termFrm (t : Trm) : Frm := .mk 9 [61] 0 [t, t] [] []
theorem termFrm_check (t : Trm) : (frmCheck (termFrm t) != 0) = !(termedF t) := by
  have h : (nodesF (termFrm t)).all formedF = termedF t := by
    have hp : partsOk (termFrm t) = true := by unfold termFrm; rw [partsOk_mk]; simp [arityF, atomK, quantK, countK]
    simp only [termFrm, nodesF, nodesL, List.append_nil, List.all_cons, List.all_nil, Bool.and_true]
    rw [formedF_mk, show partsOk (.mk 9 [61] 0 [t, t] [] []) = true from hp, Bool.true_and, if_neg (by decide), if_pos (by decide)]
    simp
  unfold frmCheck
  rw [h]
  cases hb : termedF t
  · rfl
  · rw [if_neg (by simp), if_neg (by simp [termFrm, Frm.size, fsizes, Frm.depth, fdepths])]; rfl
end Go.Chalk
namespace Go.Proofs.YtlfjjokcbeaekaaGreatDoor
open Go.RowKit Go.Chalk

set_option maxRecDepth 100000 in
set_option maxHeartbeats 1000000 in
theorem tform_any (env : List Bnd) (x : SlA) (f : Frm) (y : FrmA) (w : World) (hx : SlIn w (· < w.heap.size) (env.map Bnd.toD) x) (hy : FrmIn w (· < w.heap.size) f y) (hl : env.length ≤ 1500000) (hmax : ∀ b ∈ env, b.name.length ≤ 4000000) (hf : FrmFit f) (hg : GG w) :
    Calls Tryz.prog 30 #[.slice x.a env.length x.cap, ndV (f, y)] w fun e w' => e = .returned (.int .i64 (typForm env f)) ∧ Below w.heap.size w w' := by
  have hba : Below w.heap.size w (w.alloc (.cells (y.cells f).toArray 37)) := (Below.refl _ _).alloc (Nat.le_refl _) _
  have hbx : (w.alloc (.cells (y.cells f).toArray 37)).heap[w.heap.size]? = some (.cells (y.cells f).toArray 37 (0, 0)) := boxed (B := w.heap.size + 1) (Below.refl _ _) (by omega)
  have HM := Lib.hid (amay_any env x _ (hx.later hba hba.size) (by omega) hmax (hg.below hba))
  have HCK := Lib.hid (fun (W : World) (hW : Below w.heap.size w W) => fcheck_any f y W (hy.later hW hW.size) hf (hg.below hW))
  have HWK := Lib.hid (fun (W : World) (hW : Below w.heap.size w W) (h : frmCheck f = 0) => awalk_any f.size f env x y W (Nat.le_refl _) hf.size (frmCheck_zero.1 h).1 (hx.later hW hW.size) (hy.later hW hW.size) (by have := (frmCheck_zero.1 h).2.2; omega) (hg.below hW))
  have HR : Hid (typForm env f = if mayA env = false then 1 else if frmCheck f ≠ 0 then frmCheck f else walkF env f) := Lib.hid rfl
  have HB := Lib.hid (And.intro hba hbx)
  clear hx hy hba hbx hmax hg hf
  generalize typForm env f = res at HR ⊢
  generalize frmCheck f = fc at HCK HWK HR
  generalize walkF env f = wk at HWK HR
  generalize mayA env = my at HM HR
  obtain ⟨kind, name, n, terms, binds, fl⟩ := f
  simp only [ndV, FrmA.cells, SlA.val, Frm.kind, Frm.name, Frm.n, Frm.terms, Frm.binds, Frm.l] at HB HCK HWK HM ⊢
  go_enter Tryz.func30, Tryz.ntmps30
  go_wp2_with fail
  refine HM.out.mono ?_
  rintro e w1 ⟨rfl, hb1⟩
  have hbx1 := (hb1.block w.heap.size (by simp)).trans HB.out.2
  have HB1 := Lib.hid (And.intro (HB.out.1.trans (hb1.mono HB.out.1.size)) hbx1)
  cases my
  · clear hb1 hbx1
    go_wp2_with fail
    go_ret
    exact ⟨ret_int (by rw [HR.out]; rfl), HB1.out.1⟩
  · have b0 : w1.cell? ⟨w.heap.size, 0, none⟩ = some (.int .i64 kind) := cell_of_heap hbx1 rfl
    have b1 : w1.cell? ⟨w.heap.size, 1, none⟩ = some (.string ⟨name.toArray⟩) := cell_of_heap hbx1 rfl
    have b2 : w1.cell? ⟨w.heap.size, 2, none⟩ = some (.int .i64 n) := cell_of_heap hbx1 rfl
    have b3 : w1.cell? ⟨w.heap.size, 3, none⟩ = some (.slice y.t.a terms.length y.t.cap) := cell_of_heap hbx1 rfl
    have b4 : w1.cell? ⟨w.heap.size, 4, none⟩ = some (.slice y.b.a binds.length y.b.cap) := cell_of_heap hbx1 rfl
    have b5 : w1.cell? ⟨w.heap.size, 5, none⟩ = some (.slice y.l.a fl.length y.l.cap) := cell_of_heap hbx1 rfl
    clear hb1 hbx1
    have hd : (fc ≠ 0 ∧ (fc != 0) = true) ∨ (fc = 0 ∧ (fc != 0) = false) := by by_cases h : fc = 0 <;> simp [h]
    go_wp2_with fail
    refine (HCK.out _ HB1.out.1).mono ?_
    rintro e w2 ⟨rfl, hb2⟩
    have hbx2 := (hb2.block w.heap.size ((Array.getElem?_eq_some_iff.1 HB1.out.2).1)).trans HB1.out.2
    have HB2 := Lib.hid (HB1.out.1.trans (hb2.mono HB1.out.1.size))
    clear b0 b1 b2 b3 b4 b5 hb2
    rcases hd with ⟨d1, d2⟩ | ⟨d1, d2⟩
    · have HD := Lib.hid d1
      clear d1 hbx2
      go_wp2_with fail
      go_ret
      exact ⟨ret_int (by rw [HR.out, if_neg (by simp), if_pos HD.out]), HB2.out⟩
    · subst d1
      clear d2
      have b0 : w2.cell? ⟨w.heap.size, 0, none⟩ = some (.int .i64 kind) := cell_of_heap hbx2 rfl
      have b1 : w2.cell? ⟨w.heap.size, 1, none⟩ = some (.string ⟨name.toArray⟩) := cell_of_heap hbx2 rfl
      have b2 : w2.cell? ⟨w.heap.size, 2, none⟩ = some (.int .i64 n) := cell_of_heap hbx2 rfl
      have b3 : w2.cell? ⟨w.heap.size, 3, none⟩ = some (.slice y.t.a terms.length y.t.cap) := cell_of_heap hbx2 rfl
      have b4 : w2.cell? ⟨w.heap.size, 4, none⟩ = some (.slice y.b.a binds.length y.b.cap) := cell_of_heap hbx2 rfl
      have b5 : w2.cell? ⟨w.heap.size, 5, none⟩ = some (.slice y.l.a fl.length y.l.cap) := cell_of_heap hbx2 rfl
      have HWW := Lib.hid (HWK.out _ HB2.out (by first | rfl | trivial))
      clear hbx2
      go_wp2_with fail
      refine HWW.out.mono ?_
      rintro e w3 ⟨rfl, hb3⟩
      have HB3 := Lib.hid (HB2.out.trans (hb3.mono HB2.out.size))
      clear hb3
      go_wp2_with fail
      go_ret
      exact ⟨ret_int (by rw [HR.out, if_neg (by simp), if_neg (by simp)]), HB3.out⟩

set_option maxRecDepth 100000 in
set_option maxHeartbeats 1000000 in
theorem tterm_any (env : List Bnd) (x : SlA) (t : Trm) (w : World) (hx : SlIn w (· < w.heap.size) (env.map Bnd.toD) x) (hl : env.length ≤ 1500000) (hmax : ∀ b ∈ env, b.name.length ≤ 4000000) (ht : TrmFit t) (hg : GG w) :
    Calls Tryz.prog 59 #[.slice x.a env.length x.cap, .agg #[.int .i64 t.kind, .string ⟨t.name.toArray⟩, .int .i64 t.n]] w fun e w' => e = .returned (.tuple #[.int .i64 (typTerm env t).1, .int .i64 (typTerm env t).2]) ∧ Below w.heap.size w w' := by
  have hba : Below w.heap.size w (w.alloc (.cells #[.int .i64 t.kind, .string ⟨t.name.toArray⟩, .int .i64 t.n] 116)) := (Below.refl _ _).alloc (Nat.le_refl _) _
  have HM := Lib.hid (amay_any env x _ (hx.later hba hba.size) (by omega) hmax (hg.below hba))
  have hcheck := fun (W : World) (hW : Below w.heap.size w W) => (by
    have hb2 : Below W.heap.size W (W.alloc (.cells #[.int .i64 t.kind, .string ⟨t.name.toArray⟩, .int .i64 t.n, .int .i64 t.kind, .string ⟨t.name.toArray⟩, .int .i64 t.n] 116)) := (Below.refl _ _).alloc (Nat.le_refl _) _
    have hin : FrmIn (W.alloc (.cells #[.int .i64 t.kind, .string ⟨t.name.toArray⟩, .int .i64 t.n, .int .i64 t.kind, .string ⟨t.name.toArray⟩, .int .i64 t.n] 116)) (· < (W.alloc (.cells #[.int .i64 t.kind, .string ⟨t.name.toArray⟩, .int .i64 t.n, .int .i64 t.kind, .string ⟨t.name.toArray⟩, .int .i64 t.n] 116)).heap.size) (termFrm t) ⟨⟨some ⟨W.heap.size, 0, none⟩, W.heap.size, 0, 2⟩, noSl, noSl⟩ :=
      ⟨(show I64 9 from i64_small (by decide) (by decide)), (show (1 : Nat) ≤ maxLen from by decide), (show I64 0 from i64_small (by decide) (by decide)),
        SlIn.lit (cs := t.toD.vals ++ t.toD.vals) (boxed (B := W.heap.size + 1) (Below.refl _ _) (by omega)) (DsAt.flat2 (Trm.flatT.flat t) (Trm.fine ht) (Trm.flatT.flat t) (Trm.fine ht)) (by show _ < _; simp) (Nat.le_refl _) (by decide), SlIn.nil (Nat.zero_le _) _ _ _, SlIn.nil (Nat.zero_le _) _ _ _⟩
    have hfit : FrmFit (termFrm t) := ⟨by simp [termFrm, Frm.size, fsizes], fun g hg => by
      simp only [termFrm, nodesF, nodesL, List.mem_cons, List.not_mem_nil, or_false] at hg
      subst hg
      refine ⟨by simp [Frm.terms], by simp [Frm.binds], by simp [Frm.l], by simp [Frm.name], fun u hu => ?_, fun c hc => by simp [Frm.binds] at hc⟩
      simp [Frm.terms] at hu; subst hu; exact ht.name⟩
    have hc := fcheck_any (termFrm t) _ _ hin hfit (hg.below (hW.trans (hb2.mono hW.size)))
    simp only [ndV, termFrm, FrmA.cells, SlA.val, Frm.kind, Frm.name, Frm.n, Frm.terms, Frm.binds, Frm.l, List.length_cons, List.length_nil, noSl, Nat.zero_add, Nat.reduceAdd] at hc
    exact hc : Calls Tryz.prog 47 #[.agg #[.int .i64 9, .string ⟨[61].toArray⟩, .int .i64 0, .slice (some ⟨W.heap.size, 0, none⟩) 2 2, .slice none 0 0, .slice none 0 0]] (W.alloc (.cells #[.int .i64 t.kind, .string ⟨t.name.toArray⟩, .int .i64 t.n, .int .i64 t.kind, .string ⟨t.name.toArray⟩, .int .i64 t.n] 116)) fun e w' => e = .returned (.int .i64 (frmCheck (.mk 9 [61] 0 [t, t] [] []))) ∧ Below (W.alloc (.cells #[.int .i64 t.kind, .string ⟨t.name.toArray⟩, .int .i64 t.n, .int .i64 t.kind, .string ⟨t.name.toArray⟩, .int .i64 t.n] 116)).heap.size (W.alloc (.cells #[.int .i64 t.kind, .string ⟨t.name.toArray⟩, .int .i64 t.n, .int .i64 t.kind, .string ⟨t.name.toArray⟩, .int .i64 t.n] 116)) w')
  have hso := fun (W : World) (hW : Below w.heap.size w W) (h : termedF t = true) => sort_any env x t W (hx.later hW hW.size) (by omega) (by
    unfold termedF at h
    split at h
    · rename_i he; omega
    · simp only [Bool.and_eq_true, decide_eq_true_eq] at h; omega) (hg.below hW)
  have hte : (frmCheck (.mk 9 [61] 0 [t, t] [] []) != 0) = !(termedF t) := termFrm_check t
  have hres : typTerm env t = if mayA env = false ∨ termedF t = false then (0, 1) else sortF env t := rfl
  have HCK := Lib.hid hcheck
  have HSO := Lib.hid hso
  have HR := Lib.hid hres
  have HTE := Lib.hid hte
  have HB := Lib.hid hba
  clear hcheck hso hres hte hba hx hg hmax ht
  generalize typTerm env t = res at HR ⊢
  generalize mayA env = my at HM HR
  generalize termedF t = te at HSO HTE HR
  generalize sortF env t = so at HSO HR
  generalize frmCheck (.mk 9 [61] 0 [t, t] [] []) = fc at HCK HTE
  obtain ⟨kind, name, n⟩ := t
  simp only at HM HCK HSO HB ⊢
  go_enter Tryz.func59, Tryz.ntmps59
  go_wp2_with fail
  refine HM.out.mono ?_
  rintro e w1 ⟨rfl, hb1⟩
  have hbx1 := (hb1.block w.heap.size (by simp)).trans (boxed (B := w.heap.size + 1) (o := .cells #[.int .i64 kind, .string ⟨name.toArray⟩, .int .i64 n] 116) (Below.refl _ _) (by omega))
  have HB1 := Lib.hid (And.intro (HB.out.trans (hb1.mono HB.out.size)) hbx1)
  cases my
  · clear hb1 hbx1
    have HRR : Hid (res = (0, 1)) := Lib.hid (by rw [HR.out, if_pos (.inl rfl)])
    go_wp2_with fail
    go_ret2
    exact ⟨by rw [HRR.out]; rfl, HB1.out.1⟩
  · have b0 : w1.cell? ⟨w.heap.size, 0, none⟩ = some (.int .i64 kind) := cell_of_heap hbx1 rfl
    have b1 : w1.cell? ⟨w.heap.size, 1, none⟩ = some (.string ⟨name.toArray⟩) := cell_of_heap hbx1 rfl
    have b2 : w1.cell? ⟨w.heap.size, 2, none⟩ = some (.int .i64 n) := cell_of_heap hbx1 rfl
    have HCC := Lib.hid (HCK.out w1 HB1.out.1)
    clear hb1 hbx1
    cases te
    · have hfc : (fc != 0) = true := HTE.out
      have HRR : Hid (res = (0, 1)) := Lib.hid (by rw [HR.out, if_pos (.inr rfl)])
      go_wp2_with fail
      refine HCC.out.mono ?_
      rintro e w2 ⟨rfl, hb2⟩
      have HB2 := Lib.hid (HB1.out.1.trans ((((Below.refl w1.heap.size w1).alloc (Nat.le_refl _) _).trans (hb2.mono (by simp))).mono HB1.out.1.size))
      clear hb2 b0 b1 b2
      go_wp2_with fail
      go_ret2
      exact ⟨by rw [HRR.out]; rfl, HB2.out⟩
    · have hfc : fc = 0 := int_eq HTE.out
      subst hfc
      have HRR : Hid (res = so) := Lib.hid (by rw [HR.out, if_neg (by simp)])
      go_wp2_with fail
      refine HCC.out.mono ?_
      rintro e w2 ⟨rfl, hb2⟩
      have hb12 := ((Below.refl w1.heap.size w1).alloc (Nat.le_refl _) (.cells #[.int .i64 kind, .string ⟨name.toArray⟩, .int .i64 n, .int .i64 kind, .string ⟨name.toArray⟩, .int .i64 n] 116)).trans (hb2.mono (by simp))
      have HB2 := Lib.hid (HB1.out.1.trans (hb12.mono HB1.out.1.size))
      have hbx2 := (hb12.block w.heap.size ((Array.getElem?_eq_some_iff.1 HB1.out.2).1)).trans HB1.out.2
      have c0 : w2.cell? ⟨w.heap.size, 0, none⟩ = some (.int .i64 kind) := cell_of_heap hbx2 rfl
      have c1 : w2.cell? ⟨w.heap.size, 1, none⟩ = some (.string ⟨name.toArray⟩) := cell_of_heap hbx2 rfl
      have c2 : w2.cell? ⟨w.heap.size, 2, none⟩ = some (.int .i64 n) := cell_of_heap hbx2 rfl
      have HSS := Lib.hid (HSO.out w2 HB2.out (by first | rfl | trivial))
      clear hb2 b0 b1 b2 hb12 hbx2
      go_wp2_with fail
      refine HSS.out.mono ?_
      rintro e w3 ⟨rfl, hb3⟩
      have HB3 := Lib.hid (HB2.out.trans (hb3.mono HB2.out.size))
      clear hb3
      go_wp2_with fail
      go_ret2
      exact ⟨by rw [HRR.out]; rfl, HB3.out⟩
end Go.Proofs.YtlfjjokcbeaekaaGreatDoor

/- types: Rule. -/
namespace Go.Chalk
open Go.RowKit
end Go.Chalk
namespace Go.Proofs.YtlfjjokcbeaekaaGreatDoor
open Go.RowKit Go.Chalk
structure RulFit (r : Rul) : Prop where
  name : r.name.length ≤ 4000000
  len : r.each.length ≤ 1500000
  each : ∀ b ∈ r.each, b.name.length ≤ 4000000
  body : FrmFit r.body

set_option maxRecDepth 100000 in
set_option maxHeartbeats 2000000 in
theorem trule_any (r : Rul) (y : RulA) (w : World) (hy : RulIn w (· < w.heap.size) r y) (hf : RulFit r) (hg : GG w) :
    Calls Tryz.prog 20 #[.agg (y.cells r).toArray] w fun e w' => e = .returned (.int .i64 (typRule r)) ∧ Below w.heap.size w w' := by
  have hba : Below w.heap.size w (w.alloc (.cells (y.cells r).toArray 66)) := (Below.refl _ _).alloc (Nat.le_refl _) _
  have hbx : (w.alloc (.cells (y.cells r).toArray 66)).heap[w.heap.size]? = some (.cells (y.cells r).toArray 66 (0, 0)) := boxed (B := w.heap.size + 1) (Below.refl _ _) (by omega)
  have HFM := Lib.hid (fun (W : World) (hW : Below w.heap.size w W) => tformed_any ⟨r.name, 1⟩ W ⟨hf.name, (show I64 1 from i64_small (by decide) (by decide))⟩ (hg.below hW))
  have HEB := Lib.hid (fun (W : World) (hW : Below w.heap.size w W) => each_bad r.each y.each W (hy.each.later hW hW.size) (by have := hf.len; omega) hf.each (hg.below hW))
  have HM := Lib.hid (fun (W : World) (hW : Below w.heap.size w W) => amay_any r.each y.each W (hy.each.later hW hW.size) (by have := hf.len; omega) hf.each (hg.below hW))
  have HCK := Lib.hid (fun (W : World) (hW : Below w.heap.size w W) => fcheck_any r.body y.body W (hy.body.later hW hW.size) hf.body (hg.below hW))
  have HWK := Lib.hid (fun (W : World) (hW : Below w.heap.size w W) (h : frmCheck r.body = 0) => awalk_any r.body.size r.body r.each y.each y.body W (Nat.le_refl _) hf.body.size (frmCheck_zero.1 h).1 (hy.each.later hW hW.size) (hy.body.later hW hW.size) (by have := (frmCheck_zero.1 h).2.2; have := hf.len; omega) (hg.below hW))
  have HR : Hid (typRule r = if bndOk ⟨r.name, 1⟩ = false ∨ r.weight < (if r.hard then 0 else 1) ∨ (if r.hard then 0 else 1000) < r.weight ∨ 6 < r.each.length ∨ r.each.all bndOk = false then 1
    else if frmCheck r.body ≠ 0 then frmCheck r.body else if mayA r.each = false then 82 else walkF r.each r.body) := Lib.hid rfl
  have HB := Lib.hid (And.intro hba hbx)
  clear hy hba hbx hg hf
  generalize typRule r = res at HR ⊢
  obtain ⟨name, hard, weight, each, ⟨kind, fname, n, terms, binds, fl⟩⟩ := r
  obtain ⟨ye, yb⟩ := y
  simp only at HFM HEB HM HCK HWK HR
  generalize bndOk ⟨name, 1⟩ = bo at HFM HR
  generalize each.all bndOk = eb at HEB HR
  generalize mayA each = my at HM HR
  generalize frmCheck (.mk kind fname n terms binds fl) = fc at HCK HWK HR
  generalize walkF each (.mk kind fname n terms binds fl) = wk at HWK HR
  simp only [ndV, RulA.cells, FrmA.cells, SlA.val, Frm.kind, Frm.name, Frm.n, Frm.terms, Frm.binds, Frm.l] at HB HCK HWK HM HEB HFM ⊢
  cases hard
  · -- hard = false
    have hw1 : ((weight : Int) < 1 ∧ weight < 1) ∨ (decide ((weight : Int) < 1) = false ∧ ¬ weight < 1) := by
      by_cases h : weight < 1
      · exact .inl ⟨h, h⟩
      · exact .inr ⟨decide_eq_false h, h⟩
    have hw2 : ((1000 : Int) < weight ∧ 1000 < weight) ∨ (decide ((1000 : Int) < weight) = false ∧ ¬ 1000 < weight) := by
      by_cases h : 1000 < weight
      · exact .inl ⟨h, h⟩
      · exact .inr ⟨decide_eq_false h, h⟩
    have hw3 : ((6 : Int) < (each.length : Int) ∧ 6 < each.length) ∨ (decide ((6 : Int) < (each.length : Int)) = false ∧ ¬ 6 < each.length) := by
      by_cases h : 6 < each.length
      · exact .inl ⟨by omega, h⟩
      · exact .inr ⟨decide_eq_false (by omega), h⟩
    have HR2 : Hid (res = if bo = false ∨ weight < 1 ∨ 1000 < weight ∨ 6 < each.length ∨ eb = false then 1 else if fc ≠ 0 then fc else if my = false then 82 else wk) := Lib.hid (by rw [HR.out]; rfl)
    clear HR
    go_enter Tryz.func20, Tryz.ntmps20
    go_wp2_with fail
    refine (HFM.out _ HB.out.1).mono ?_
    rintro e w1 ⟨rfl, hb1⟩
    have hbx1 := (hb1.block w.heap.size (by simp)).trans HB.out.2
    have HB1 := Lib.hid (And.intro (HB.out.1.trans (hb1.mono HB.out.1.size)) hbx1)
    clear hb1
    cases bo
    · clear hbx1
      go_wp2_with fail
      go_ret
      exact ⟨ret_int (by rw [HR2.out, if_pos (.inl (by first | rfl | trivial))]), HB1.out.1⟩
    · have b2 : w1.cell? ⟨w.heap.size, 2, none⟩ = some (.int .i64 weight) := cell_of_heap hbx1 rfl
      have b3 : w1.cell? ⟨w.heap.size, 3, none⟩ = some (.slice ye.a each.length ye.cap) := cell_of_heap hbx1 rfl
      clear hbx1
      rcases hw1 with ⟨u1, v1⟩ | ⟨u1, v1⟩
      · have HV := Lib.hid v1
        clear v1
        go_wp2_with fail
        go_ret
        exact ⟨ret_int (by rw [HR2.out, if_pos (.inr (.inl HV.out))]), HB1.out.1⟩
      rcases hw2 with ⟨u2, v2⟩ | ⟨u2, v2⟩
      · have HV := Lib.hid v2
        clear v1 v2
        go_wp2_with fail
        go_ret
        exact ⟨ret_int (by rw [HR2.out, if_pos (.inr (.inr (.inl HV.out)))]), HB1.out.1⟩
      rcases hw3 with ⟨u3, v3⟩ | ⟨u3, v3⟩
      · have HV := Lib.hid v3
        clear v1 v2 v3
        go_wp2_with fail
        go_ret
        exact ⟨ret_int (by rw [HR2.out, if_pos (.inr (.inr (.inr (.inl HV.out))))]), HB1.out.1⟩
      have HV := Lib.hid (And.intro v1 (And.intro v2 v3))
      clear v1 v2 v3
      go_wp2_with fail
      refine (HEB.out _ HB1.out.1).mono ?_
      rintro e w2 ⟨rfl, hb2⟩
      have hbx2 := (hb2.block w.heap.size ((Array.getElem?_eq_some_iff.1 HB1.out.2).1)).trans HB1.out.2
      have HB2 := Lib.hid (And.intro (HB1.out.1.trans (hb2.mono HB1.out.1.size)) hbx2)
      clear hb2 b2 b3
      cases eb
      · clear hbx2
        go_wp2_with fail
        go_ret
        exact ⟨ret_int (by rw [HR2.out, if_pos (.inr (.inr (.inr (.inr (by first | rfl | trivial)))))]), HB2.out.1⟩
      have HR3 : Hid (res = if fc ≠ 0 then fc else if my = false then 82 else wk) := Lib.hid (by rw [HR2.out, if_neg (by have := HV.out; simp; omega)])
      have b4 : w2.cell? ⟨w.heap.size, 4, none⟩ = some (.int .i64 kind) := cell_of_heap hbx2 rfl
      have b5 : w2.cell? ⟨w.heap.size, 5, none⟩ = some (.string ⟨fname.toArray⟩) := cell_of_heap hbx2 rfl
      have b6 : w2.cell? ⟨w.heap.size, 6, none⟩ = some (.int .i64 n) := cell_of_heap hbx2 rfl
      have b7 : w2.cell? ⟨w.heap.size, 7, none⟩ = some (.slice yb.t.a terms.length yb.t.cap) := cell_of_heap hbx2 rfl
      have b8 : w2.cell? ⟨w.heap.size, 8, none⟩ = some (.slice yb.b.a binds.length yb.b.cap) := cell_of_heap hbx2 rfl
      have b9 : w2.cell? ⟨w.heap.size, 9, none⟩ = some (.slice yb.l.a fl.length yb.l.cap) := cell_of_heap hbx2 rfl
      clear hbx2
      have hd : (fc ≠ 0 ∧ (fc != 0) = true) ∨ (fc = 0 ∧ (fc != 0) = false) := by by_cases h : fc = 0 <;> simp [h]
      go_wp2_with fail
      refine (HCK.out _ HB2.out.1).mono ?_
      rintro e w3 ⟨rfl, hb3⟩
      have hbx3 := (hb3.block w.heap.size ((Array.getElem?_eq_some_iff.1 HB2.out.2).1)).trans HB2.out.2
      have HB3 := Lib.hid (And.intro (HB2.out.1.trans (hb3.mono HB2.out.1.size)) hbx3)
      clear hb3 b4 b5 b6 b7 b8 b9
      rcases hd with ⟨d1, d2⟩ | ⟨d1, d2⟩
      · have HD := Lib.hid d1
        clear d1 hbx3
        go_wp2_with fail
        go_ret
        exact ⟨ret_int (by rw [HR3.out, if_pos HD.out]), HB3.out.1⟩
      subst d1
      clear d2
      have b3 : w3.cell? ⟨w.heap.size, 3, none⟩ = some (.slice ye.a each.length ye.cap) := cell_of_heap hbx3 rfl
      clear hbx3
      go_wp2_with fail
      refine (HM.out _ HB3.out.1).mono ?_
      rintro e w4 ⟨rfl, hb4⟩
      have hbx4 := (hb4.block w.heap.size ((Array.getElem?_eq_some_iff.1 HB3.out.2).1)).trans HB3.out.2
      have HB4 := Lib.hid (HB3.out.1.trans (hb4.mono HB3.out.1.size))
      clear hb4 b3
      cases my
      · clear hbx4
        go_wp2_with fail
        go_ret
        exact ⟨ret_int (by rw [HR3.out]; simp), HB4.out⟩
      have b3 : w4.cell? ⟨w.heap.size, 3, none⟩ = some (.slice ye.a each.length ye.cap) := cell_of_heap hbx4 rfl
      have b4 : w4.cell? ⟨w.heap.size, 4, none⟩ = some (.int .i64 kind) := cell_of_heap hbx4 rfl
      have b5 : w4.cell? ⟨w.heap.size, 5, none⟩ = some (.string ⟨fname.toArray⟩) := cell_of_heap hbx4 rfl
      have b6 : w4.cell? ⟨w.heap.size, 6, none⟩ = some (.int .i64 n) := cell_of_heap hbx4 rfl
      have b7 : w4.cell? ⟨w.heap.size, 7, none⟩ = some (.slice yb.t.a terms.length yb.t.cap) := cell_of_heap hbx4 rfl
      have b8 : w4.cell? ⟨w.heap.size, 8, none⟩ = some (.slice yb.b.a binds.length yb.b.cap) := cell_of_heap hbx4 rfl
      have b9 : w4.cell? ⟨w.heap.size, 9, none⟩ = some (.slice yb.l.a fl.length yb.l.cap) := cell_of_heap hbx4 rfl
      clear hbx4
      have HWW := Lib.hid (HWK.out _ HB4.out (by first | rfl | trivial))
      go_wp2_with fail
      refine HWW.out.mono ?_
      rintro e w5 ⟨rfl, hb5⟩
      have HB5 := Lib.hid (HB4.out.trans (hb5.mono HB4.out.size))
      clear hb5
      go_wp2_with fail
      go_ret
      exact ⟨ret_int (by rw [HR3.out]; simp), HB5.out⟩
  · -- hard = true
    have hw1 : ((weight : Int) < 0 ∧ weight < 0) ∨ (decide ((weight : Int) < 0) = false ∧ ¬ weight < 0) := by
      by_cases h : weight < 0
      · exact .inl ⟨h, h⟩
      · exact .inr ⟨decide_eq_false h, h⟩
    have hw2 : ((0 : Int) < weight ∧ 0 < weight) ∨ (decide ((0 : Int) < weight) = false ∧ ¬ 0 < weight) := by
      by_cases h : 0 < weight
      · exact .inl ⟨h, h⟩
      · exact .inr ⟨decide_eq_false h, h⟩
    have hw3 : ((6 : Int) < (each.length : Int) ∧ 6 < each.length) ∨ (decide ((6 : Int) < (each.length : Int)) = false ∧ ¬ 6 < each.length) := by
      by_cases h : 6 < each.length
      · exact .inl ⟨by omega, h⟩
      · exact .inr ⟨decide_eq_false (by omega), h⟩
    have HR2 : Hid (res = if bo = false ∨ weight < 0 ∨ 0 < weight ∨ 6 < each.length ∨ eb = false then 1 else if fc ≠ 0 then fc else if my = false then 82 else wk) := Lib.hid (by rw [HR.out]; rfl)
    clear HR
    go_enter Tryz.func20, Tryz.ntmps20
    go_wp2_with fail
    refine (HFM.out _ HB.out.1).mono ?_
    rintro e w1 ⟨rfl, hb1⟩
    have hbx1 := (hb1.block w.heap.size (by simp)).trans HB.out.2
    have HB1 := Lib.hid (And.intro (HB.out.1.trans (hb1.mono HB.out.1.size)) hbx1)
    clear hb1
    cases bo
    · clear hbx1
      go_wp2_with fail
      go_ret
      exact ⟨ret_int (by rw [HR2.out, if_pos (.inl (by first | rfl | trivial))]), HB1.out.1⟩
    · have b2 : w1.cell? ⟨w.heap.size, 2, none⟩ = some (.int .i64 weight) := cell_of_heap hbx1 rfl
      have b3 : w1.cell? ⟨w.heap.size, 3, none⟩ = some (.slice ye.a each.length ye.cap) := cell_of_heap hbx1 rfl
      clear hbx1
      rcases hw1 with ⟨u1, v1⟩ | ⟨u1, v1⟩
      · have HV := Lib.hid v1
        clear v1
        go_wp2_with fail
        go_ret
        exact ⟨ret_int (by rw [HR2.out, if_pos (.inr (.inl HV.out))]), HB1.out.1⟩
      rcases hw2 with ⟨u2, v2⟩ | ⟨u2, v2⟩
      · have HV := Lib.hid v2
        clear v1 v2
        go_wp2_with fail
        go_ret
        exact ⟨ret_int (by rw [HR2.out, if_pos (.inr (.inr (.inl HV.out)))]), HB1.out.1⟩
      rcases hw3 with ⟨u3, v3⟩ | ⟨u3, v3⟩
      · have HV := Lib.hid v3
        clear v1 v2 v3
        go_wp2_with fail
        go_ret
        exact ⟨ret_int (by rw [HR2.out, if_pos (.inr (.inr (.inr (.inl HV.out))))]), HB1.out.1⟩
      have HV := Lib.hid (And.intro v1 (And.intro v2 v3))
      clear v1 v2 v3
      go_wp2_with fail
      refine (HEB.out _ HB1.out.1).mono ?_
      rintro e w2 ⟨rfl, hb2⟩
      have hbx2 := (hb2.block w.heap.size ((Array.getElem?_eq_some_iff.1 HB1.out.2).1)).trans HB1.out.2
      have HB2 := Lib.hid (And.intro (HB1.out.1.trans (hb2.mono HB1.out.1.size)) hbx2)
      clear hb2 b2 b3
      cases eb
      · clear hbx2
        go_wp2_with fail
        go_ret
        exact ⟨ret_int (by rw [HR2.out, if_pos (.inr (.inr (.inr (.inr (by first | rfl | trivial)))))]), HB2.out.1⟩
      have HR3 : Hid (res = if fc ≠ 0 then fc else if my = false then 82 else wk) := Lib.hid (by rw [HR2.out, if_neg (by have := HV.out; simp; omega)])
      have b4 : w2.cell? ⟨w.heap.size, 4, none⟩ = some (.int .i64 kind) := cell_of_heap hbx2 rfl
      have b5 : w2.cell? ⟨w.heap.size, 5, none⟩ = some (.string ⟨fname.toArray⟩) := cell_of_heap hbx2 rfl
      have b6 : w2.cell? ⟨w.heap.size, 6, none⟩ = some (.int .i64 n) := cell_of_heap hbx2 rfl
      have b7 : w2.cell? ⟨w.heap.size, 7, none⟩ = some (.slice yb.t.a terms.length yb.t.cap) := cell_of_heap hbx2 rfl
      have b8 : w2.cell? ⟨w.heap.size, 8, none⟩ = some (.slice yb.b.a binds.length yb.b.cap) := cell_of_heap hbx2 rfl
      have b9 : w2.cell? ⟨w.heap.size, 9, none⟩ = some (.slice yb.l.a fl.length yb.l.cap) := cell_of_heap hbx2 rfl
      clear hbx2
      have hd : (fc ≠ 0 ∧ (fc != 0) = true) ∨ (fc = 0 ∧ (fc != 0) = false) := by by_cases h : fc = 0 <;> simp [h]
      go_wp2_with fail
      refine (HCK.out _ HB2.out.1).mono ?_
      rintro e w3 ⟨rfl, hb3⟩
      have hbx3 := (hb3.block w.heap.size ((Array.getElem?_eq_some_iff.1 HB2.out.2).1)).trans HB2.out.2
      have HB3 := Lib.hid (And.intro (HB2.out.1.trans (hb3.mono HB2.out.1.size)) hbx3)
      clear hb3 b4 b5 b6 b7 b8 b9
      rcases hd with ⟨d1, d2⟩ | ⟨d1, d2⟩
      · have HD := Lib.hid d1
        clear d1 hbx3
        go_wp2_with fail
        go_ret
        exact ⟨ret_int (by rw [HR3.out, if_pos HD.out]), HB3.out.1⟩
      subst d1
      clear d2
      have b3 : w3.cell? ⟨w.heap.size, 3, none⟩ = some (.slice ye.a each.length ye.cap) := cell_of_heap hbx3 rfl
      clear hbx3
      go_wp2_with fail
      refine (HM.out _ HB3.out.1).mono ?_
      rintro e w4 ⟨rfl, hb4⟩
      have hbx4 := (hb4.block w.heap.size ((Array.getElem?_eq_some_iff.1 HB3.out.2).1)).trans HB3.out.2
      have HB4 := Lib.hid (HB3.out.1.trans (hb4.mono HB3.out.1.size))
      clear hb4 b3
      cases my
      · clear hbx4
        go_wp2_with fail
        go_ret
        exact ⟨ret_int (by rw [HR3.out]; simp), HB4.out⟩
      have b3 : w4.cell? ⟨w.heap.size, 3, none⟩ = some (.slice ye.a each.length ye.cap) := cell_of_heap hbx4 rfl
      have b4 : w4.cell? ⟨w.heap.size, 4, none⟩ = some (.int .i64 kind) := cell_of_heap hbx4 rfl
      have b5 : w4.cell? ⟨w.heap.size, 5, none⟩ = some (.string ⟨fname.toArray⟩) := cell_of_heap hbx4 rfl
      have b6 : w4.cell? ⟨w.heap.size, 6, none⟩ = some (.int .i64 n) := cell_of_heap hbx4 rfl
      have b7 : w4.cell? ⟨w.heap.size, 7, none⟩ = some (.slice yb.t.a terms.length yb.t.cap) := cell_of_heap hbx4 rfl
      have b8 : w4.cell? ⟨w.heap.size, 8, none⟩ = some (.slice yb.b.a binds.length yb.b.cap) := cell_of_heap hbx4 rfl
      have b9 : w4.cell? ⟨w.heap.size, 9, none⟩ = some (.slice yb.l.a fl.length yb.l.cap) := cell_of_heap hbx4 rfl
      clear hbx4
      have HWW := Lib.hid (HWK.out _ HB4.out (by first | rfl | trivial))
      go_wp2_with fail
      refine HWW.out.mono ?_
      rintro e w5 ⟨rfl, hb5⟩
      have HB5 := Lib.hid (HB4.out.trans (hb5.mono HB4.out.size))
      clear hb5
      go_wp2_with fail
      go_ret
      exact ⟨ret_int (by rw [HR3.out]; simp), HB5.out⟩
end Go.Proofs.YtlfjjokcbeaekaaGreatDoor

/- types: Rules. -/
namespace Go.Chalk
open Go.RowKit
theorem CellsAt.ten {w : World} {b o : Nat} {c0 c1 c2 c3 c4 c5 c6 c7 c8 c9 : Value} (h : CellsAt w b o [c0, c1, c2, c3, c4, c5, c6, c7, c8, c9]) : w.cell? ⟨b, o, none⟩ = some c0 ∧ w.cell? ⟨b, o + 1, none⟩ = some c1 ∧ w.cell? ⟨b, o + 2, none⟩ = some c2 ∧ w.cell? ⟨b, o + 3, none⟩ = some c3 ∧ w.cell? ⟨b, o + 4, none⟩ = some c4 ∧
    w.cell? ⟨b, o + 5, none⟩ = some c5 ∧ w.cell? ⟨b, o + 6, none⟩ = some c6 ∧ w.cell? ⟨b, o + 7, none⟩ = some c7 ∧ w.cell? ⟨b, o + 8, none⟩ = some c8 ∧ w.cell? ⟨b, o + 9, none⟩ = some c9 :=
  ⟨by simpa using h 0 (by simp), by simpa using h 1 (by simp), by simpa using h 2 (by simp), by simpa using h 3 (by simp), by simpa using h 4 (by simp), by simpa using h 5 (by simp), by simpa using h 6 (by simp), by simpa using h 7 (by simp), by simpa using h 8 (by simp), by simpa using h 9 (by simp)⟩
theorem RulIn.later {w w' : World} {r : Rul} {x : RulA} {B C : Nat} (h : RulIn w (· < B) r x) (hb : Below B w w') (hC : B ≤ C) : RulIn w' (· < C) r x := (h.agree (agree_of_below hb)).mono (fun _ hk => Nat.lt_of_lt_of_le hk hC)
theorem rules_err {met : List Bs} {l r : List Rul} {x : Rul} {j : Nat} (hl : l = x :: r) {e : Int} (he : typRule x = e) (h : e ≠ 0) : rulesGo met l j = ((j : Int), e) := by
  subst hl; rw [rulesGo, he, if_pos h]
theorem rules_twice {met : List Bs} {l r : List Rul} {x : Rul} {j : Nat} (hl : l = x :: r) (he : typRule x = 0) (h : met.contains x.name = true) : rulesGo met l j = ((j : Int), 82) := by
  subst hl; rw [rulesGo, he, if_neg (by simp), h, if_pos rfl]
theorem rules_next {met : List Bs} {l r : List Rul} {x : Rul} {j : Nat} (hl : l = x :: r) (he : typRule x = 0) (h : met.contains x.name = false) : rulesGo met l j = rulesGo (met ++ [x.name]) r (j + 1) := by
  subst hl; rw [rulesGo, he, if_neg (by simp), h, if_neg (by simp)]
end Go.Chalk
namespace Go.Proofs.YtlfjjokcbeaekaaGreatDoor
open Go.RowKit Go.Chalk

set_option maxRecDepth 100000 in
set_option maxHeartbeats 2000000 in
theorem trules_any (l : List Rul) (x : SlA) (w : World) (hx : SlIn w (· < w.heap.size) (l.map Rul.toD) x) (hl : l.length ≤ 2000000) (hf : ∀ r ∈ l, RulFit r) (hg : GG w) :
    Calls Tryz.prog 37 #[.slice x.a l.length x.cap] w fun e w' => e = .returned (.tuple #[.int .i64 (typRules l).1, .int .i64 (typRules l).2]) ∧ Below w.heap.size w w' := by
  have hmm := @run_makeMap Tryz.prog
  have HIN : Hid (∀ (j : Nat) (hj : j < l.length), ∃ y : RulA, RulIn w (· < w.heap.size) l[j] y ∧ CellsAt w x.b (x.o + j * 10) (y.cells l[j])) := Lib.hid (fun j hj => hx.rul j hj)
  have HSL := Lib.hid hx.at_
  have HFT := Lib.hid (fun (j : Nat) (hj : j < l.length) => hf _ (List.getElem_mem hj))
  have HG := Lib.hid hg
  obtain ⟨res, hres⟩ : ∃ res, res = typRules l := ⟨_, rfl⟩
  rw [← hres]
  have HRS := Lib.hid (show res = rulesGo [] l 0 from hres)
  clear hx hf hg hres
  go_enter Tryz.func37, Tryz.ntmps37
  go_wp2_with fail
  go_loopw [11] (fun i wr => ∃ j : Nat, j ≤ l.length ∧ i = .int .i64 j ∧ Below w.heap.size w wr ∧ Hid (SetAt wr w.heap.size ((l.take j).map Rul.name)) ∧ Hid (res = rulesGo ((l.take j).map Rul.name) (l.drop j) j)) (fun i _ => l.length - (intOf i).toNat)
  case atStart => exact ⟨0, Nat.zero_le _, rfl, (Below.refl _ _).alloc (Nat.le_refl _) _, Lib.hid (setAt_new w), HRS⟩
  case round =>
    obtain ⟨j, hj, rfl, hb, HSET, HE⟩ := hrel
    by_cases hlt : j < l.length
    · obtain ⟨y, hy1, hy2⟩ := HIN.out j hlt
      obtain ⟨hxa, hFb⟩ := HSL.out (by rw [List.length_map]; omega)
      have hys := hy2.agree (agree_of_below hb) hFb
      have hbw : Below w.heap.size w (wr.alloc (.cells (y.cells l[j]).toArray 66)) := hb.alloc hb.size _
      have HCL := Lib.hid (trule_any l[j] y _ (hy1.later hbw hbw.size) (HFT.out j hlt) (HG.out.below hbw))
      have hdrop : l.drop j = l[j] :: l.drop (j + 1) := List.drop_eq_getElem_cons hlt
      have htk : (l.take (j + 1)).map Rul.name = (l.take j).map Rul.name ++ [l[j].name] := by rw [List.take_succ_eq_append_getElem hlt, List.map_append]; rfl
      have HDR := Lib.hid hdrop
      have HTK := Lib.hid htk
      have HBW := Lib.hid hbw
      obtain ⟨c, hc⟩ : ∃ c, typRule l[j] = c := ⟨_, rfl⟩
      rw [hc] at HCL
      have HCC := Lib.hid hc
      rw [hxa]
      clear hy1 hy2 hFb hbw hdrop hc htk
      generalize l[j] = re at HCL HBW HDR HCC HTK hys
      obtain ⟨name, hard, weight, each, ⟨kind, fname, n, terms, binds, fl⟩⟩ := re
      obtain ⟨ye, yb⟩ := y
      simp only [RulA.cells, FrmA.cells, SlA.val, Frm.kind, Frm.name, Frm.n, Frm.terms, Frm.binds, Frm.l] at HCL HBW HTK hys
      obtain ⟨e0, e1, e2, e3, e4, e5, e6, e7, e8, e9⟩ := hys.ten
      clear hys
      generalize hmet : (l.take j).map Rul.name = met at HSET HE HTK
      clear hmet
      have hcd : (c ≠ 0 ∧ (c != 0) = true) ∨ (c = 0 ∧ (c != 0) = false) := by by_cases h : c = 0 <;> simp [h]
      rcases hcd with ⟨d1, d2⟩ | ⟨d1, d2⟩
      · have HD := Lib.hid (HE.out.trans (rules_err HDR.out HCC.out d1))
        clear d1
        go_wp2_with fail
        refine HCL.out.mono ?_
        rintro e w1 ⟨rfl, hb1⟩
        have HB1 := Lib.hid (HBW.out.trans (hb1.mono HBW.out.size))
        clear hb1
        go_wp2_with fail
        go_ret2
        exact ⟨by rw [HD.out]; rfl, HB1.out⟩
      · subst d1
        clear d2
        go_wp2_with fail
        refine HCL.out.mono ?_
        rintro e w1 ⟨rfl, hb1⟩
        have hlw := (Array.getElem?_eq_some_iff.1 HSET.out).1
        have hset1 : SetAt w1 w.heap.size met := (hb1.block w.heap.size (by simp; omega)).trans ((Below.heap_alloc _ _ _ hlw).trans HSET.out)
        have q0 : w1.cell? ⟨wr.heap.size, 0, none⟩ = some (.string ⟨name.toArray⟩) := cell_of_heap (boxed (B := wr.heap.size + 1) (by simpa using hb1) (by omega)) rfl
        have HB1 := Lib.hid (HBW.out.trans (hb1.mono HBW.out.size))
        have hlk := set_look (P := Tryz.prog) w1 152 _ _ w.heap.size met name Tryz.underlying152 Tryz.underlying9 Tryz.zeroValue4 hset1
        cases hcn : met.contains name
        · have hput := set_put (P := Tryz.prog) w1 152 _ _ w.heap.size met name Tryz.underlying152 Tryz.underlying9 hset1 hcn
          rw [hcn] at hlk
          have HD := Lib.hid (HE.out.trans (rules_next HDR.out HCC.out hcn))
          have hl1 : w.heap.size < w1.heap.size := (Array.getElem?_eq_some_iff.1 hset1).1
          clear hb1 hset1 hcn hlw
          go_wp2_with fail
          refine ⟨⟨j + 1, by omega, by go_num, ?_, Lib.hid ?_, Lib.hid ?_⟩, by simp [intOf]; omega⟩
          · exact HB1.out.trans ((Chalk.Mod.putObj w1 w.heap.size _).below HB1.out.size (fun k hk => by omega))
          · rw [HTK.out]
            show (World.putObj _ _ _).heap[_]? = _
            rw [World.putObj_heap_same hl1]
            simp
          · rw [HTK.out]; exact HD.out
        · rw [hcn] at hlk
          have HD := Lib.hid (HE.out.trans (rules_twice HDR.out HCC.out hcn))
          clear hb1 hset1 hcn hlw
          go_wp2_with fail
          go_ret2
          exact ⟨by rw [HD.out]; rfl, HB1.out⟩
    · have hjl : j = l.length := by omega
      have HD : Hid (res = (0, 0)) := Lib.hid (by rw [HE.out, hjl, List.drop_length, rulesGo])
      clear hjl
      go_wp2_with fail
      go_ret2
      exact ⟨by rw [HD.out]; rfl, hb⟩
end Go.Proofs.YtlfjjokcbeaekaaGreatDoor

/- week.Check. -/
namespace Go.Proofs.YtlfjjokcbeaekaaGreatDoor
open Go.RowKit Go.Chalk

/-- A school in a box. -/
def SchBox (W : World) (b : Nat) (s : Schl) (x : SchA) : Prop := W.heap[b]? = some (.cells (x.cells s).toArray 28 (0, 0))
theorem SchBox.cells {W : World} {b : Nat} {s : Schl} {x : SchA} (h : SchBox W b s x) : W.cell? ⟨b, 0, none⟩ = some (.slice x.slots.a s.slots.length x.slots.cap) ∧ W.cell? ⟨b, 1, none⟩ = some (.slice x.rooms.a s.rooms.length x.rooms.cap) ∧ W.cell? ⟨b, 2, none⟩ = some (.slice x.people.a s.people.length x.people.cap) ∧ W.cell? ⟨b, 3, none⟩ = some (.slice x.groups.a s.groups.length x.groups.cap) ∧ W.cell? ⟨b, 4, none⟩ = some (.slice x.lessons.a s.lessons.length x.lessons.cap) :=
  ⟨cell_of_heap h rfl, cell_of_heap h rfl, cell_of_heap h rfl, cell_of_heap h rfl, cell_of_heap h rfl⟩
theorem SchBox.below {W W' : World} {b : Nat} {s : Schl} {x : SchA} (h : SchBox W b s x) (hb : Below W.heap.size W W') : SchBox W' b s x := (hb.block _ (Array.getElem?_eq_some_iff.1 h).1).trans h
theorem SchBox.lt {W : World} {b : Nat} {s : Schl} {x : SchA} (h : SchBox W b s x) : b < W.heap.size := (Array.getElem?_eq_some_iff.1 h).1

set_option maxRecDepth 100000 in
theorem lost_any (p : Plc) (s : Schl) (x : SchA) (q : Nat) (w : World) (hq : SchBox w q s x) :
    Calls Tryz.prog 55 #[.agg #[.int .i64 p.slot, .int .i64 p.room], .pointer (some ⟨q, 0, none⟩)] w (Answers w (lostB s p)) := by
  obtain ⟨slot, room⟩ := p
  have hb := hq.below ((Below.refl _ _).alloc (Nat.le_refl _) (.cells #[.int .i64 slot, .int .i64 room] 87))
  obtain ⟨c0, c1, _, _, _⟩ := hb.cells
  clear hq hb
  unfold lostB
  simp only
  have HA := Lib.hid (fun W => wwithin_any slot s.slots.length W)
  have HR := Lib.hid (fun W => wwithin_any room s.rooms.length W)
  generalize (decide (0 ≤ slot) && decide (slot < (s.slots.length : Int))) = a at HA ⊢
  generalize (decide (0 ≤ room) && decide (room < (s.rooms.length : Int))) = b at HR ⊢
  cases a
  · go_enter Tryz.func55, Tryz.ntmps55
    go_wp2_with fail
    refine (HA.out _).mono ?_
    rintro e w' ⟨rfl, rfl⟩
    go_wp2_with fail
    go_ret
    exact ⟨by simp, (Below.refl _ _).alloc (Nat.le_refl _) _⟩
  · go_enter Tryz.func55, Tryz.ntmps55
    go_wp2_with fail
    refine (HA.out _).mono ?_
    rintro e w' ⟨rfl, rfl⟩
    go_wp2_with fail
    refine (HR.out _).mono ?_
    rintro e w' ⟨rfl, rfl⟩
    go_wp2_with fail
    go_ret
    exact ⟨by simp, (Below.refl _ _).alloc (Nat.le_refl _) _⟩
theorem places_lost (l : List Plc) (y : SlA) (s : Schl) (x : SchA) (q : Nat) (w : World) (hy : SlIn w (· < w.heap.size) (l.map Plc.toD) y) (hl : l.length ≤ 2000000) (hq : SchBox w q s x) :
    Calls Tryz.prog 57 #[.slice y.a l.length y.cap, .func (.func 55) #[] #[.pointer (some ⟨q, 0, none⟩)]] w fun e w' => e = .returned (.bool (l.any (lostB s))) ∧ Below w.heap.size w w' := by
  obtain ⟨g1, _, _, g4, _⟩ := hy.flat Plc.flatT
  rw [← any_range]
  refine containsFunc_Plc 55 #[.pointer (some ⟨q, 0, none⟩)] (fun j => (l[j]?.map (lostB s)).getD false) l.length (fun j => .int .i64 ((l[j]?.map (·.slot)).getD 0)) (fun j => .int .i64 ((l[j]?.map (·.room)).getD 0)) y.a y.b y.o y.cap w g1 ?_ ?_ (fun _ _ => enters_of Tryz.func55 (by kernel_rfl) rfl _ _) hl
  · intro j hj
    have h := g4.two j hj rfl
    rw [List.getElem?_eq_getElem hj]
    exact h
  · intro j hj W hW
    rw [List.getElem?_eq_getElem hj]
    exact lost_any l[j] s x q W (hq.below hW)

set_option maxRecDepth 100000 in
set_option maxHeartbeats 1000000 in
theorem wcheck_any (s : Schl) (x : SchA) (l : List Plc) (y : SlA) (w : World) (hI : ItoaAt) (hs : SchIn w (· < w.heap.size) s x) (hf : SchFit s) (hy : SlIn w (· < w.heap.size) (l.map Plc.toD) y) (hl : l.length ≤ 2000000) (hg : GG w) :
    Calls Tryz.prog 28 #[.agg (x.cells s).toArray, .agg #[.slice y.a l.length y.cap]] w fun e w' => e = .returned (.int .i64 (weekCheck s l)) ∧ Below w.heap.size w w' := by
  have hba : Below w.heap.size w ((w.alloc (.cells (x.cells s).toArray 28)).alloc (.cells #[.slice y.a l.length y.cap] 31)) := ((Below.refl _ _).alloc (Nat.le_refl _) _).alloc (by simp) _
  have hbx : SchBox ((w.alloc (.cells (x.cells s).toArray 28)).alloc (.cells #[.slice y.a l.length y.cap] 31)) w.heap.size s x := by unfold SchBox; rw [heap_get, if_neg (by simp), heap_get, if_pos rfl]
  have hby : ((w.alloc (.cells (x.cells s).toArray 28)).alloc (.cells #[.slice y.a l.length y.cap] 31)).heap[w.heap.size + 1]? = some (.cells #[.slice y.a l.length y.cap] 31 (0, 0)) := by rw [heap_get, if_pos (by simp)]
  have HSC := Lib.hid (scheck_any s x _ hI (hs.later hba hba.size) hf (hg.below hba))
  have HPL := Lib.hid (fun (W : World) (hW : Below w.heap.size w W) (hq : SchBox W w.heap.size s x) => places_lost l y s x w.heap.size W (hy.later hW hW.size) hl hq)
  have HR : Hid (weekCheck s l = if schCheck s ≠ 0 then schCheck s else if l.length ≠ s.lessons.length ∨ l.any (lostB s) = true then 40 else 0) := Lib.hid rfl
  have HB := Lib.hid (And.intro hba (And.intro hbx hby))
  have hmf : ∀ (fn : Fn) (first cap : Array Value) (w : World), (Instr.makeFunc fn first cap).run Tryz.prog w = .ok (.func fn first cap) w := fun _ _ _ _ => rfl
  clear hs hy hg hf hba hbx hby hI
  generalize weekCheck s l = res at HR ⊢
  generalize schCheck s = sc at HSC HR
  generalize l.any (lostB s) = an at HPL HR
  simp only [SchA.cells, SlA.val] at HSC HB ⊢
  have hd : (sc ≠ 0 ∧ (sc != 0) = true) ∨ (sc = 0 ∧ (sc != 0) = false) := by by_cases h : sc = 0 <;> simp [h]
  go_enter Tryz.func28, Tryz.ntmps28
  go_wp2_with fail
  refine HSC.out.mono ?_
  rintro e w1 ⟨rfl, hb1⟩
  have HB1 := Lib.hid (And.intro (HB.out.1.trans (hb1.mono HB.out.1.size)) (And.intro (HB.out.2.1.below hb1) ((hb1.block (w.heap.size + 1) (by simp)).trans HB.out.2.2)))
  clear hb1
  rcases hd with ⟨d1, d2⟩ | ⟨d1, d2⟩
  · have HD := Lib.hid d1
    clear d1
    go_wp2_with fail
    go_ret
    exact ⟨ret_int (by rw [HR.out, if_pos HD.out]), HB1.out.1⟩
  subst d1
  clear d2
  have b4 := HB1.out.2.1.cells.2.2.2.2
  have c0 : w1.cell? ⟨w.heap.size + 1, 0, none⟩ = some (.slice y.a l.length y.cap) := cell_of_heap HB1.out.2.2 rfl
  have hle : (l.length ≠ s.lessons.length ∧ ((l.length : Int) != (s.lessons.length : Int)) = true) ∨ (l.length = s.lessons.length ∧ ((l.length : Int) != (s.lessons.length : Int)) = false) := by
    by_cases h : l.length = s.lessons.length
    · exact .inr ⟨h, by simp; omega⟩
    · exact .inl ⟨h, by simp; omega⟩
  rcases hle with ⟨d1, d2⟩ | ⟨d1, d2⟩
  · have HD := Lib.hid d1
    clear d1
    go_wp2_with fail
    go_ret
    exact ⟨ret_int (by rw [HR.out, if_neg (by simp), if_pos (.inl HD.out)]), HB1.out.1⟩
  have hpw := HPL.out w1 HB1.out.1 HB1.out.2.1
  have HPW := Lib.hid hpw
  have HD := Lib.hid d1
  clear d1 hpw
  go_wp2_with fail
  refine HPW.out.mono ?_
  rintro e w2 ⟨rfl, hb2⟩
  have HB2 := Lib.hid (HB1.out.1.trans (hb2.mono HB1.out.1.size))
  clear hb2
  cases an
  · go_wp2_with fail
    go_ret
    exact ⟨ret_int (by rw [HR.out, if_neg (by simp), if_neg (by rw [HD.out]; simp)]), HB2.out⟩
  · go_wp2_with fail
    go_ret
    exact ⟨ret_int (by rw [HR.out, if_neg (by simp), if_pos (.inr (by first | rfl | trivial))]), HB2.out⟩
end Go.Proofs.YtlfjjokcbeaekaaGreatDoor
