/- gate's (*maker).literal. -/
import Derived.Test.YtpacnaeckbcpjaaDoorKinds
namespace Go.Proofs.YtpacnaeckbcpjaaDoor
open Go.RowKit Go.Chalk

theorem litsF_append : ∀ (a b : List Tr) (nx : Int), (litsF (a ++ b) nx).2.2 = (litsF b (litsF a nx).2.2).2.2
  | [], b, nx => by simp [litsF]
  | t :: a, b, nx => by rw [List.cons_append, litsF, litsF]; exact litsF_append a b _
theorem litsF_take_le (l : List Tr) (nx N : Int) (j : Nat) (h : mayAll l N = true) (hnx : 1 ≤ nx) : (litsF (l.take j) nx).2.2 ≤ (litsF l nx).2.2 := by
  have e : (litsF l nx).2.2 = (litsF (l.drop j) (litsF (l.take j) nx).2.2).2.2 := by rw [← litsF_append, List.take_append_drop]
  have h1 := litsF_bound (l.take j) nx N (mayAll_take h j) hnx
  have h2 : mayAll (l.drop j) N = true := by
    rw [mayAll_eq] at h ⊢
    rw [List.all_eq_true] at h ⊢
    exact fun x hx => h x (List.mem_of_mem_drop hx)
  have h3 := litsF_bound (l.drop j) (litsF (l.take j) nx).2.2 N h2 (by omega)
  omega

/-- What literal leaves: it has run out of variables, or it has encoded the tree. -/
def LitOut (w : World) (G : Nat → Prop) (mb : Nat) (ex : List Value) (ls : List Lin) (r : Option Nat) (x : Value) (new : List Lin) (nx' : Int) (e : Ending) (w' : World) : Prop :=
  (65537 < nx' ∧ Stops (fun k => k = mb ∨ r = some k) w e w') ∨ (nx' ≤ 65537 ∧ LitPost w G mb 55 42 ex ls r x new nx' e w')

/-- Behind the loop of a negation. -/
theorem LitRel.done {w wr : World} {G : Nat → Prop} {mb : Nat} {tm tl ti : TypeId} {ex : List Value} {ls : List Lin} {r r' q : Option Nat} {bx : Obj} {l : List Tr} {nx : Int} {j : Nat} {lv v' x : Value} (hG : ∀ k, G k → k < w.heap.size)
    (R : LitRel w wr G mb tm tl ti ex ls r bx l nx j lv v' r' q) : LitPost w G mb tm tl ex ls r x (litsF (l.take j) nx).2.1 (litsF (l.take j) nx).2.2 (.returned x) wr := by
  have hs := R.size
  refine ⟨rfl, v', r', R.maker.mono (fun k hk => ?_) (fun k hk => ?_), R.fresh, R.mod⟩
  · rcases hk with h | h
    · exact .inl h
    · exact .inr ⟨by omega, h.2.1⟩
  · rcases hk with h | h
    · have := hG k h; omega
    · exact h.2

theorem KindsAt.kept {w w' : World} {S : Nat → Prop} {kb : Nat} (h : KindsAt w kb) (hm : Mod S w w') (hk : ¬ S kb) : KindsAt w' kb := by
  unfold KindsAt at *
  rw [hm.block kb (Array.getElem?_eq_some_iff.1 h).1 hk]; exact h

/-- As 'fresh_stop', with an ending that does not come to be: a region's tactic wants one goal. -/
theorem fresh_stop2 (mb : Nat) (k nx : Int) (lins : List Lin) (r : Option Nat) (ex : List Value) (v : Value) (a : Option Addr) (n cap : Nat) (G : Nat → Prop) (w : World) (M : MkAt w G mb 55 42 ex v nx lins r) (hnx : 65536 < nx) (hnx2 : nx ≤ 9223372036854775807) :
    Calls Tryd.prog 39 #[.pointer (some ⟨mb, 0, none⟩), .int .i64 k, .slice a n cap] w (fun e w' => Stops (fun _ => False) w e w' ∨ (Hid False ∧ e = .returned (.int .i64 0))) :=
  (fresh_stop mb k nx lins r ex v a n cap G w M hnx hnx2 _).mono (fun _ _ h => .inl h)

theorem below_drew {w w3 : World} (h : Below w.drew.heap.size w.drew w3) : Below w.heap.size w w3 := ⟨h.os, h.tape, h.output, h.size, h.block⟩

theorem LitRel.stop {w wr w3 w4 : World} {G : Nat → Prop} {mb : Nat} {tm tl ti : TypeId} {ex : List Value} {ls : List Lin} {r r' q : Option Nat} {bx : Obj} {l : List Tr} {nx : Int} {j : Nat} {lv v' : Value}
    (R : LitRel w wr G mb tm tl ti ex ls r bx l nx j lv v' r' q) (hb : Below wr.heap.size wr w3) (hm : Mod (fun _ => False) w3 w4) : Mod (fun k => k = mb ∨ r = some k) w w4 :=
  (R.mod.trans (Mod.of_below (S := fun _ => False) hb) (fun _ _ h => h.elim)).trans hm (fun _ _ h => h.elim)
theorem LitRel.good {w wr w3 w4 : World} {G : Nat → Prop} {mb : Nat} {tm tl ti : TypeId} {ex : List Value} {ls lins new : List Lin} {r r' q : Option Nat} {bx : Obj} {l : List Tr} {nx nx2 : Int} {j : Nat} {lv v' x : Value} {e : Ending} (hG : ∀ k, G k → k < w.heap.size)
    (R : LitRel w wr G mb tm tl ti ex ls r bx l nx j lv v' r' q) (hb : Below wr.heap.size wr w3) (hp : LitPost w3 (fun k => G k ∨ (w.heap.size < k ∧ k < wr.heap.size ∧ q ≠ some k)) mb tm tl ex (ls ++ lins) r' x new nx2 e w4) :
    LitPost w G mb tm tl ex ls r x (lins ++ new) nx2 (.returned x) w4 := by
  have h1 := hb.size
  have h2 : w3.heap.size ≤ w4.heap.size := by obtain ⟨_, _, _, _, _, m⟩ := hp; exact m.size
  exact LitPost.next R.mod R.fresh hb hp (fun k hk => by rcases hk with h | h; exact .inl h; exact .inr ⟨by omega, by omega⟩) hG

set_option maxRecDepth 100000 in
set_option maxHeartbeats 1000000 in
theorem lit_own (n : Nat) : ∀ (t : Tr) (x : Value) (N nx : Int) (v : Value) (ls : List Lin) (r : Option Nat) (w : World) (B0 mb kb : Nat) (G : Nat → Prop), t.size ≤ n → mayB t N = true → N ≤ 65536 → 1 ≤ nx → nx ≤ 65537 → nx + t.size ≤ 1000000 → ls.length + 2 * t.size ≤ 1000000 →
    TreeV w (· < B0) t x → B0 ≤ w.heap.size → B0 ≤ mb → (∀ k, G k → B0 ≤ k) → KindsAt w kb → kb ≠ mb → ¬ G kb → MkAt w G mb 55 42 [.map (some kb)] v nx ls r →
    Calls Tryd.prog 21 #[.pointer (some ⟨mb, 0, none⟩), x] w (LitOut w G mb [.map (some kb)] ls r (.int .i64 (litF t nx).1) (litF t nx).2.1 (litF t nx).2.2) := by
  induction n with
  | zero => intro t _ _ _ _ _ _ _ _ _ _ _ h; have := size_pos t; omega
  | succ n ih =>
    intro t x N nx v ls r w B0 mb kb G hn hmay hN hnx hnxm hsz hls ht hB0 hmb hG hK hkm hkG hM
    obtain ⟨kind, tv, k, l⟩ := t
    obtain ⟨a, b, o, cap, rfl, hsl, _, _, _, _, _, hl⟩ := ht.open
    have hbd := litF_bound _ nx N hmay hnx
    rw [mayB, Bool.and_eq_true] at hmay
    obtain ⟨hnode, hall⟩ := hmay
    have hcs := nodeOk_true hnode
    rw [Tr.size] at hn hsz hls
    have hll := length_le_sizes l
    have IH := Lib.hid ih
    have HL := Lib.hid hl
    have HM := Lib.hid hM
    have HA := Lib.hid hall
    have HB := Lib.hid hbd
    have HK := Lib.hid hK
    have HKG := Lib.hid hkG
    have HKM := Lib.hid hkm
    have hkr : r ≠ some kb := fun e => hkG (hM.row kb e).1
    have HKR := Lib.hid hkr
    have HKL : Hid (kb < w.heap.size) := (Array.getElem?_eq_some_iff.1 hK).1
    clear ih hl ht hM hnode hall hbd hK hkG hkm hkr
    by_cases h2 : kind = 2
    · subst h2
      have e1 : litF (.mk 2 tv k l) nx = (tv, [], nx) := by rw [litF, if_pos rfl]
      rw [e1]
      clear hcs e1 HB
      go_enter Tryd.func21, Tryd.ntmps21
      go_wp2_with fail
      go_ret
      exact .inr ⟨hnxm, LitPost.same HM.out ((Below.refl _ _).alloc (Nat.le_refl _) _)⟩
    · have hk2 : (kind == 2) = false := by simpa using h2
      have hlit : (litF (.mk kind tv k l) nx).2.2 = if kind = 3 then (litsF l nx).2.2 else (litsF l nx).2.2 + 1 := by
        rw [litF, if_neg h2]; split <;> rfl
      have HLIT := Lib.hid hlit
      have HCS := Lib.hid hcs
      have H2 := Lib.hid h2
      clear hcs h2 HB hlit
      obtain ⟨i0, hi, hz0, hz1, hz2⟩ := info_parts sums_info
      go_enter Tryd.func21, Tryd.ntmps21
      go_wp2_with fail
      go_loopw [16, 5, 7] (fun i lv _ wr => ∃ (j : Nat) (v' : Value) (r' q : Option Nat), i = .int .i64 j ∧ (litsF (l.take j) nx).2.2 ≤ 65537 ∧ LitRel w wr G mb 55 42 3 [.map (some kb)] ls r (.cells #[.int .i64 kind, .int .i64 tv, .int .i64 k, .slice a l.length cap] 24) l nx j lv v' r' q) (fun i _ _ _ => l.length - (intOf i).toNat)
      case atStart => exact ⟨0, v, r, none, rfl, hnxm, LitRel.start _ l HM.out⟩
      case round =>
        obtain ⟨j, v', r', q, rfl, hmx, R⟩ := hrel
        have hj := R.le
        have hb : Below B0 w wr := R.mod.below hB0 (fun k hk => by rcases hk with rfl | hk; exact hmb; exact hG k (HM.out.row k hk).1)
        have hsize := R.size
        have hKr : KindsAt wr kb := HK.out.kept R.mod (fun h => by rcases h with h | h; exact HKM.out h; exact HKR.out h)
        have HKr := Lib.hid hKr
        clear hKr
        by_cases hlt : j < l.length
        · obtain ⟨rfl, hbl⟩ := hsl (by omega)
          obtain ⟨k0, k1, k2, a1, n1, cap1, e0, e1, e2, e3, htj⟩ := TreesIn.at HL.out hb hbl j hlt
          have hma := mayAll_at HA.out j hlt
          have hs1 := sizes_take_succ l j hlt
          have hs2 := sizes_take_le l (j + 1)
          have hb1 := litsF_bound (l.take j) nx N hma.2 hnx
          have hb2 := litF_bound l[j] (litsF (l.take j) nx).2.2 N hma.1 (by omega)
          have hb3 := litsF_lins (l.take j) nx
          have hb4 := litsF_length (l.take j) nx
          have hb5 : (l.take j).length ≤ l.length := by simp; omega
          have hb6 := litsF_take_le l nx N (j + 1) HA.out hnx
          rw [List.take_succ_eq_append_getElem hlt, litsF_snoc] at hb6
          have hIH := IH.out l[j] _ N (litsF (l.take j) nx).2.2 v' (ls ++ (litsF (l.take j) nx).2.1) r' (wr.alloc (.cells #[.int .i64 k0, .int .i64 k1, .int .i64 k2, .slice a1 n1 cap1] 24)) B0 mb kb _ (by omega) hma.1 hN (by omega) hmx (by omega) (by rw [List.length_append]; omega)
            (htj.agree (agree_of_below (hb.alloc (by omega) _))) (by simp; omega) hmb (fun k hk => by rcases hk with h | h; exact hG k h; omega) (HKr.out.kept (S := fun _ => False) ((Mod.refl _ _).alloc _) id) HKM.out (fun h => by rcases h with h | h; exact HKG.out h; have := HKL.out; omega) (R.maker.below ((Below.refl _ _).alloc (Nat.le_refl _) _))
          have HI := Lib.hid hIH
          have HR := Lib.hid R
          have hlen : (litsF (l.take j) nx).1.length ≤ 1000000 := by omega
          have hyb : -9223372036854775808 ≤ (litF l[j] (litsF (l.take j) nx).2.2).1 ∧ (litF l[j] (litsF (l.take j) nx).2.2).1 ≤ 9223372036854775807 := by omega
          have HB6 := Lib.hid hb6
          clear hIH R hma hs1 hs2 hb1 hb2 hb3 hb4 hb5 hb6
          generalize hy : (litF l[j] (litsF (l.take j) nx).2.2).1 = y at hyb
          have HY := Lib.hid hy
          clear hy
          go_wp2_with fail
          refine HI.out.mono ?_
          intro e w2 hp
          rcases hp with ⟨hx, hst⟩ | ⟨hx, hp⟩
          · obtain ⟨rfl, hmd⟩ := hst
            have HMD := Lib.hid hmd
            have HX := Lib.hid hx
            clear hmd hx
            go_wp2_with fail
            refine ⟨rfl, .inl ⟨?_, rfl, ?_⟩⟩
            · have h6 := HB6.out; have hx := HX.out; rw [HLIT.out]; split <;> omega
            · refine (HR.out.mod.trans ((Mod.refl (fun _ => False) wr).alloc _) (fun _ _ h => h.elim)).trans HMD.out (fun i hi h => ?_)
              rcases h with h | h
              · exact .inl h
              · rcases HR.out.fresh with f | ⟨k, f, hk⟩
                · exact .inr (f ▸ h)
                · rw [f] at h; simp at h; omega
          · have HP := Lib.hid hp
            have HX := Lib.hid hx
            clear hx
            obtain ⟨rfl, hp⟩ := hp
            clear hp
            rw [HY.out]
            have row := HR.out.row2 (b2 := .cells #[.int .i64 y] 3) HM.out.lt HM.out.inn HP.out
            go_upto_region 8 with (at_builtin; go_must (refine wpList_append_lies _ rfl _ _ 40 rfl 0 3 i0 (.int .i64 0) 1 8 Tryd.underlying40 hi hz0 hz1 hz2 rfl (by decide) _ _ _ rfl row ⟨w2.heap.size, 0, none⟩ 1 1 [.int .i64 y] rfl rfl (cell_one_new _ _ _) (by simp [Value.oneCell']) (by omega) (by unfold maxLen; omega) (by omega) (Nat.zero_le _) (w2.heap.size + 1) (by simp) ?_); intro g cp wz hown hgrow hat hglt; have HO := Lib.hid hown; have HG := Lib.hid hgrow; have HAT := Lib.hid hat; clear hown hgrow hat)
            go_wp2_with fail
            obtain ⟨v2, r2, R2⟩ := LitRel.step HM.out.lt HM.out.inn (fun k hk => HM.out.inn k (HM.out.row k hk).1) HR.out hlt HP.out (by rw [HY.out]; exact hyb) (by rw [HY.out]; exact HO.out) HG.out HAT.out
            exact ⟨⟨j + 1, v2, r2, some g, by go_num, by rw [List.take_succ_eq_append_getElem hlt, litsF_snoc]; exact HX.out, R2⟩, by simp [intOf]; omega⟩
        · have hjl : j = l.length := by omega
          have htk : l.take j = l := List.take_of_length_le (by omega)
          have hmk := R.maker
          have hli := R.lits
          have hdone := LitRel.done (x := .int .i64 (litF (.mk kind tv k l) nx).1) HM.out.inn R
          rw [htk] at hmk hli hmx hdone
          have hb1 := litsF_bound l nx N HA.out hnx
          have hb3 := litsF_lins l nx
          have hb4 := litsF_length l nx
          clear htk
          obtain ⟨q0, q1, q2, q3⟩ := (show wr.cell? ⟨w.heap.size, 0, none⟩ = some (.int .i64 kind) ∧ wr.cell? ⟨w.heap.size, 1, none⟩ = some (.int .i64 tv) ∧ wr.cell? ⟨w.heap.size, 2, none⟩ = some (.int .i64 k) ∧ wr.cell? ⟨w.heap.size, 3, none⟩ = some (.slice a l.length cap) from ⟨cell_of_heap R.box rfl, cell_of_heap R.box rfl, cell_of_heap R.box rfl, cell_of_heap R.box rfl⟩)
          have p2 : wr.cell? ⟨mb, 2, none⟩ = some (.map (some kb)) := cell_of_heap hmk.box rfl
          have hxs : ∀ y ∈ (litsF l nx).1, -1000000000000000000 ≤ y ∧ y ≤ 1000000000000000000 := fun y hy => by have := hb1.2.2 y hy; omega
          have HXS := Lib.hid hxs
          have HN2 := Lib.hid hb4
          have hnx2 : 1 ≤ (litsF l nx).2.2 ∧ (litsF l nx).2.2 ≤ 1000000 := by omega
          have hlen2 : (litsF l nx).1.length ≤ 1000000 := by omega
          have hlins2 : (ls ++ (litsF l nx).2.1).length ≤ 999998 := by rw [List.length_append]; omega
          have hlpos : kind = 3 → ∃ y, (litsF l nx).1 = [y] := by
            intro h3
            have hl1 : l.length = 1 := by
              rcases HCS.out with hc | hc | hc | hc | hc | hc | hc <;> first | omega | (have := hc.2.2.2; simp at this; omega)
            rw [hl1] at hb4
            exact List.length_eq_one_iff.1 hb4
          have HLP := Lib.hid hlpos
          have HR := Lib.hid R
          have HMK := Lib.hid hmk
          have HLI := Lib.hid hli
          have HDN := Lib.hid hdone
          clear R hb1 hb3 hb4 hxs hmk hli hjl hb hlpos hdone
          by_cases h3 : kind = 3
          · subst h3
            obtain ⟨y, hy⟩ := HLP.out rfl
            have hyb := HXS.out y (by rw [hy]; simp)
            have hy0 : (litF (.mk 3 tv k l) nx).1 = -y := by rw [litF, if_neg (by omega), if_pos rfl, hy]; rfl
            have hy1 : (litF (.mk 3 tv k l) nx).2.1 = (litsF l nx).2.1 := by rw [litF, if_neg (by omega), if_pos rfl]
            have hy2 : (litF (.mk 3 tv k l) nx).2.2 = (litsF l nx).2.2 := by rw [litF, if_neg (by omega), if_pos rfl]
            have HY := Lib.hid (And.intro hy0 (And.intro hy1 hy2))
            have hlv := HLI.out
            rw [hy] at hlv
            obtain ⟨hrow, _⟩ := hlv.int_cells
            obtain ⟨g, gcap, hv⟩ := own_slice (n := 0) hrow
            subst hv
            have hcell : wr.cell? ⟨g, 0, none⟩ = some (.int .i64 y) := by rw [hrow.cellAt 0 (by simp)]; simp
            clear hy hy0 hy1 hy2 hlv hrow
            go_wp2_with fail
            go_ret
            obtain ⟨e0, e1, e2⟩ := HY.out
            have hd := HDN.out
            rw [e0] at hd
            rw [e0, e1, e2]
            exact .inr ⟨hmx, hd⟩
          · have hk3 : (kind == 3) = false := by simpa using h3
            have hl0 : (litF (.mk kind tv k l) nx).1 = (litsF l nx).2.2 := by rw [litF, if_neg H2.out, if_neg h3]
            have hl1 : (litF (.mk kind tv k l) nx).2.1 = (litsF l nx).2.1 ++ sumsF (litsF l nx).2.2 (thrF kind tv k l.length) (litsF l nx).1 := by rw [litF, if_neg H2.out, if_neg h3]
            have hl2 : (litF (.mk kind tv k l) nx).2.2 = (litsF l nx).2.2 + 1 := by rw [litF, if_neg H2.out, if_neg h3]
            have HLF := Lib.hid (And.intro hl0 (And.intro hl1 hl2))
            clear hl0 hl1 hl2 h3
            have hmkl : mb < wr.heap.size := HMK.out.lt
            obtain ⟨la, lcap, hlv⟩ := HLI.out.form
            rw [dints_length] at hlv
            subst hlv
            obtain ⟨F, y, hlk, hthr, hcf, hy, hyb⟩ : ∃ (F : Nat) (y : Int), (Instr.lookup 52 (.map (some kb)) (.int .i64 kind) false).run Tryd.prog wr.drew = .ok (.func (.func F) #[] #[]) wr.drew ∧
                (∀ W : World, Calls Tryd.prog F #[.agg #[.int .i64 kind, .int .i64 tv, .int .i64 k, .slice a l.length cap]] W fun e w' => e = .returned (.int .i64 y) ∧ Below W.heap.size W w') ∧ (∀ (args : Array Value) (W : World), (callFunc F args).run Tryd.prog W = .ok (.enter F args) W) ∧ y = thrF kind tv k l.length ∧ -1000000000000000000 ≤ y ∧ y ≤ 1000000000000000000 := by
              rcases HCS.out with ⟨rfl, rfl, rfl, _⟩ | ⟨rfl, rfl, rfl, _⟩ | ⟨rfl, _⟩ | ⟨rfl, _⟩ | ⟨rfl, rfl, rfl⟩ | ⟨rfl, rfl, rfl⟩ | ⟨rfl, rfl, hk1, hk4⟩
              · exact ⟨_, _, kinds_look wr.drew kb HKr.out _ _ (.inl ⟨rfl, rfl⟩), fun W => thr_const W _ _ _ _ _ _ (by omega), fun _ _ => by rfl, (thrF_10 _ _).symm, by omega, by omega⟩
              · exact ⟨_, _, kinds_look wr.drew kb HKr.out _ _ (.inl ⟨rfl, rfl⟩), fun W => thr_const W _ _ _ _ _ _ (by omega), fun _ _ => by rfl, (thrF_11 _ _).symm, by omega, by omega⟩
              · cases hk2
              · cases hk3
              · exact ⟨_, _, kinds_look wr.drew kb HKr.out _ _ (.inr (.inl ⟨rfl, rfl⟩)), fun W => thr_and W _ _ _ _ _ _ (by omega), fun _ _ => by rfl, (thrF_4 _ _ _).symm, by omega, by omega⟩
              · exact ⟨_, _, kinds_look wr.drew kb HKr.out _ _ (.inr (.inr (.inl ⟨rfl, rfl⟩))), fun W => thr_or W _ _ _ _ _ _, fun _ _ => by rfl, (thrF_5 _ _ _).symm, by omega, by omega⟩
              · exact ⟨_, _, kinds_look wr.drew kb HKr.out _ _ (.inr (.inr (.inr ⟨rfl, rfl⟩))), fun W => thr_least W _ _ _ _ _ _, fun _ _ => by rfl, (thrF_6 _ _ _).symm, by omega, by omega⟩
            have HTHR := Lib.hid hthr
            have HTY := Lib.hid hy
            clear hthr hy
            have HDL : Hid (∀ w3, Below wr.heap.size wr w3 → DAt w3 (Apart w3 mb r') (.sl (dints (litsF l nx).1)) [.slice la (litsF l nx).1.length lcap]) := by
              intro w3 hb3
              have hO := HLI.out.below hb3
              have hs := hb3.size
              exact hO.read (G := Apart w3 mb r') (fun _ h => h.elim) (fun k hk => by
                have h1 := HR.out.low k hk
                have h2 := HM.out.lt
                refine ⟨hO.row_lt hk, by omega, fun e => ?_⟩
                rcases (HMK.out.row k e).1 with h | h
                · have := HM.out.inn k h; omega
                · exact h.2.2 hk) (by rw [dints_widths]; simp)
            generalize hn2 : (litsF l nx).2.2 = nx2 at *
            generalize hx2 : (litsF l nx).1 = xs at *
            generalize hs2 : (litsF l nx).2.1 = lns at *
            clear hn2 hx2 hs2
            by_cases hov : 65536 < nx2
            · go_wp2_with fail
              go_region_law (first | (go_simp; ((with_reducible refine (HTHR.out _).mono ?_); rintro e w3 ⟨rfl, hb3⟩); have HB3 := Lib.hid (below_drew hb3); clear hb3) | (go_simp; go_at_call 39; refine (fresh_stop2 mb _ nx2 _ r' _ v' _ _ _ _ _ (HMK.out.below HB3.out) hov (by omega)).mono ?_; rintro e w4 (⟨rfl, hmd⟩ | ⟨hF, rfl⟩); exact ⟨rfl, .inl ⟨by rw [HLF.out.2.2]; omega, rfl, LitRel.stop HR.out HB3.out hmd⟩⟩))
              all_goals exact hF.out.elim
            · go_wp2_with fail
              go_region_law (first | (go_simp; ((with_reducible refine (HTHR.out _).mono ?_); rintro e w3 ⟨rfl, hb3⟩); have HB3 := Lib.hid (below_drew hb3); clear hb3) | (go_simp; go_at_call 39; refine (fresh_ok mb _ nx2 xs _ r' _ v' _ _ _ (HMK.out.below HB3.out) (by omega) (by omega) (by omega) (HDL.out _ HB3.out) (by omega) hlen2 HXS.out).mono ?_; intro e w4 hp; have HP := Lib.hid hp; obtain ⟨rfl, hp⟩ := hp; clear hp))
              all_goals
                go_wp2_with fail
                go_ret
                rw [HLF.out.1, HLF.out.2.1, HLF.out.2.2]
                have hgd := LitRel.good HM.out.inn HR.out HB3.out HP.out
                refine .inr ⟨by omega, ?_⟩
                rw [← HTY.out]; exact hgd

end Go.Proofs.YtpacnaeckbcpjaaDoor
