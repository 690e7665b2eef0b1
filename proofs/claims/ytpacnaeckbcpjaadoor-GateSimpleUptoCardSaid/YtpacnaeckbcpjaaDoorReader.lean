/- The laws' (*Reader).literal: the bottom-up extension. -/
import Derived.Test.YtpacnaeckbcpjaaDoorMeansLaw
import Derived.Test.YtpacnaeckbcpjaaDoorLive
import Derived.Test.YtpacnaeckbcpjaaDoorPut
namespace Go.Chalk
open Go.RowKit
theorem newsVs_snoc (a : List Bool) : ∀ (l : List Tr) (t : Tr), newsVs (l ++ [t]) a = newsVs l a ++ newsV t a
  | [], t => by simp [newsVs]
  | x :: r, t => by rw [List.cons_append, newsVs, newsVs, newsVs_snoc a r t, List.append_assoc]
theorem cntT_snoc (a : List Bool) : ∀ (l : List Tr) (t : Tr), cntT (l ++ [t]) a = cntT l a + if valT t a then 1 else 0
  | [], t => by simp [cntT]
  | x :: r, t => by rw [List.cons_append, cntT, cntT, cntT_snoc a r t]; omega

/-- A reader in block rb: its slice av, in the row q, holds A. -/
structure RdAt (w : World) (rb : Nat) (tr tb : TypeId) (av : Value) (q : Option Nat) (A : List Bool) : Prop where
  box : w.heap[rb]? = some (.cells #[av] tr (0, 0))
  own : Own w (fun _ => False) tb 1 av q (dbools A)
  ne : q ≠ some rb
theorem RdAt.kept {w w' : World} {rb : Nat} {tr tb : TypeId} {av : Value} {q : Option Nat} {A : List Bool} (h : RdAt w rb tr tb av q A) {S : Nat → Prop} (hm : Mod S w w') (h1 : ¬ S rb) (h2 : ∀ k, q = some k → ¬ S k) : RdAt w' rb tr tb av q A :=
  ⟨(hm.block rb (Array.getElem?_eq_some_iff.1 h.box).1 h1).trans h.box, h.own.kept hm (fun _ e => e.elim) h2, h.ne⟩
theorem RdAt.below {w w' : World} {rb : Nat} {tr tb : TypeId} {av : Value} {q : Option Nat} {A : List Bool} (h : RdAt w rb tr tb av q A) (hb : Below w.heap.size w w') : RdAt w' rb tr tb av q A :=
  h.kept (S := fun _ => False) (Mod.of_below hb) id (fun _ _ => id)
theorem RdAt.lt {w : World} {rb : Nat} {tr tb : TypeId} {av : Value} {q : Option Nat} {A : List Bool} (h : RdAt w rb tr tb av q A) : rb < w.heap.size := (Array.getElem?_eq_some_iff.1 h.box).1
/-- What literal leaves. -/
def RdPost (w : World) (rb : Nat) (tr tb : TypeId) (q : Option Nat) (x : Value) (A : List Bool) (e : Ending) (w' : World) : Prop :=
  e = .returned x ∧ ∃ av' q', RdAt w' rb tr tb av' q' A ∧ (q' = q ∨ ∃ k, q' = some k ∧ w.heap.size ≤ k) ∧ Mod (fun k => k = rb ∨ q = some k) w w'
theorem RdPost.same {w w' : World} {rb : Nat} {tr tb : TypeId} {av x : Value} {q : Option Nat} {A : List Bool} (h : RdAt w rb tr tb av q A) (hb : Below w.heap.size w w') : RdPost w rb tr tb q x A (.returned x) w' :=
  ⟨rfl, av, q, h.below hb, .inl rfl, Mod.of_below hb⟩
theorem RdPost.ahead {w wa w' : World} {rb : Nat} {tr tb : TypeId} {x y : Value} {q : Option Nat} {A : List Bool} {e : Ending} (hb : Below w.heap.size w wa) (h : RdPost wa rb tr tb q x A e w') : RdPost w rb tr tb q y A (.returned y) w' := by
  obtain ⟨_, av, q', h1, h2, h3⟩ := h
  have hs := hb.size
  refine ⟨rfl, av, q', h1, ?_, (Mod.of_below hb).trans h3 (fun _ _ h => h)⟩
  rcases h2 with h | ⟨k, h, hk⟩
  · exact .inl h
  · exact .inr ⟨k, h, by omega⟩
end Go.Chalk
namespace Go.Proofs.YtpacnaeckbcpjaaDoor
open Go.RowKit Go.Chalk

/-- What holds at each round of the loop over a node's parts. -/
structure RdRel (w wr : World) (rb : Nat) (q : Option Nat) (bx : Obj) (l : List Tr) (A : List Bool) (j : Nat) (av' : Value) (q' : Option Nat) : Prop where
  le : j ≤ l.length
  size : w.heap.size < wr.heap.size
  box : wr.heap[w.heap.size]? = some bx
  mod : Chalk.Mod (fun k => k = rb ∨ q = some k) w wr
  rd : RdAt wr rb 35 4 av' q' (A ++ newsVs (l.take j) A)
  fresh : q' = q ∨ ∃ k, q' = some k ∧ w.heap.size < k

theorem RdRel.start {w : World} {rb : Nat} {q : Option Nat} {av : Value} {A : List Bool} (bx : Obj) (l : List Tr) (h : RdAt w rb 35 4 av q A) : RdRel w (w.alloc bx) rb q bx l A 0 av q :=
  ⟨Nat.zero_le _, by simp, boxed (B := w.heap.size + 1) (Below.refl _ _) (by omega), (Mod.refl _ _).alloc _, by simpa [newsVs] using h.below ((Below.refl _ _).alloc (Nat.le_refl _) bx), .inl rfl⟩

theorem RdRel.step {w wr w2 : World} {rb : Nat} {q q' : Option Nat} {bx b1 : Obj} {l : List Tr} {A : List Bool} {j : Nat} {av' x : Value} {e : Ending} (hrb : rb < w.heap.size) (hq : ∀ k, q = some k → k < w.heap.size) (R : RdRel w wr rb q bx l A j av' q') (hj : j < l.length)
    (hp : RdPost (wr.alloc b1) rb 35 4 q' x (A ++ newsVs (l.take (j + 1)) A) e w2) : ∃ av2 q2, RdRel w w2 rb q bx l A (j + 1) av2 q2 := by
  obtain ⟨le, size, box, mod, rd, fresh⟩ := R
  obtain ⟨_, av2, q2, h1, h2, h3⟩ := hp
  have hs := h3.size
  simp only [World.size_alloc] at hs
  have hq' : q' ≠ some w.heap.size := by
    rcases fresh with f | ⟨k, f, hk⟩
    · rw [f]; intro e; have := hq _ e; omega
    · rw [f]; simp; omega
  have M1 : Chalk.Mod (fun k => k = rb ∨ q' = some k) wr w2 := ((Mod.refl _ wr).alloc b1).trans h3 (fun _ _ h => h)
  refine ⟨av2, q2, by omega, by omega, ?_, ?_, h1, ?_⟩
  · rw [M1.block _ size (fun h => by rcases h with h | h; omega; exact hq' h)]; exact box
  · refine mod.trans M1 (fun i hi h => ?_)
    rcases h with h | h
    · exact .inl h
    · rcases fresh with f | ⟨k, f, hk⟩
      · exact .inr (f ▸ h)
      · rw [f] at h; simp at h; omega
  · rcases h2 with h | ⟨k, h, hk⟩
    · rw [h]; exact fresh
    · exact .inr ⟨k, h, by simp at hk; omega⟩

theorem bools_inv {w : World} {F : Nat → Prop} : ∀ {xs : List Bool} {cs : List Value}, DsAt w F (dbools xs) cs → cs = xs.map Value.bool
  | [], _, h => by rw [dbools, List.map_nil, DsAt] at h; exact h
  | x :: r, cs, h => by
    rw [dbools, List.map_cons, DsAt] at h
    obtain ⟨c1, c2, rfl, h1, h2⟩ := h
    rw [DAt] at h1
    subst h1
    rw [bools_inv (xs := r) h2]; rfl
theorem rd_info : (Tryd.prog.info? 4).map (fun i => (i.zero, i.size, i.bytes)) = some (some (.bool false), 1, 1) := by kernel_rfl

set_option maxRecDepth 100000 in
set_option maxHeartbeats 1000000 in
theorem reader_any (n : Nat) : ∀ (t : Tr) (x : Value) (N : Int) (A : List Bool) (av : Value) (q : Option Nat) (w : World) (B0 rb : Nat), t.size ≤ n → mayB t N = true → N < A.length → 1 ≤ A.length → A.length + t.size ≤ 1000000 →
    TreeV w (· < B0) t x → B0 ≤ w.heap.size → B0 ≤ rb → (∀ k, q = some k → B0 ≤ k) → RdAt w rb 35 4 av q A →
    Calls Tryd.prog 8 #[.pointer (some ⟨rb, 0, none⟩), x] w (RdPost w rb 35 4 q (.int .i64 (litF t A.length).1) (A ++ newsV t A)) := by
  induction n with
  | zero => intro t _ _ _ _ _ _ _ _ h; have := size_pos t; omega
  | succ n ih =>
    intro t x N A av q w B0 rb hn hmay hN hA hsz ht hB0 hrb hqB hR
    obtain ⟨kind, tv, k, l⟩ := t
    obtain ⟨a, b, o, cap, rfl, hsl, _, _, _, _, _, hl⟩ := ht.open
    have hbd := litF_bound _ (A.length : Int) N hmay (by omega)
    have hmay0 := hmay
    rw [mayB, Bool.and_eq_true] at hmay
    obtain ⟨hnode, hall⟩ := hmay
    have hcs := nodeOk_true hnode
    rw [Tr.size] at hn hsz
    have hll := length_le_sizes l
    have IH := Lib.hid ih
    have HL := Lib.hid hl
    have HR := Lib.hid hR
    have HA := Lib.hid hall
    have HMAY := Lib.hid hmay0
    have HQB := Lib.hid hqB
    clear ih hl ht hR hnode hall hbd hmay0 hqB
    by_cases h2 : kind = 2
    · subst h2
      have e1 : litF (.mk 2 tv k l) A.length = (tv, [], (A.length : Int)) := by rw [litF, if_pos rfl]
      have e2 : newsV (.mk 2 tv k l) A = [] := by rw [newsV, if_pos rfl]
      rw [e1, e2, List.append_nil]
      clear hcs e1 e2
      go_enter Tryd.func8, Tryd.ntmps8
      go_wp2_with fail
      go_ret
      exact RdPost.same HR.out ((Below.refl _ _).alloc (Nat.le_refl _) _)
    · by_cases h3 : kind = 3
      · subst h3
        have hl1 : l.length = 1 := by
          rcases hcs with hc | hc | hc | hc | hc | hc | hc <;> first | omega | (have := hc.2.2.2; simp at this; omega)
        clear hcs
        match l, hl1 with
        | [t0], _ =>
          obtain ⟨rfl, hbl⟩ := hsl (by simp)
          obtain ⟨k0, k1, k2, a1, n1, cap1, e0, e1, e2, e3, htj⟩ := TreesIn.at HL.out (Below.refl B0 w) hbl 0 (by simp)
          simp only [Nat.zero_mul, Nat.add_zero] at e0 e1 e2 e3
          have hblt : b < w.heap.size := by omega
          have ha := HA.out
          simp only [mayAll, Bool.and_true] at ha
          have HA1 := Lib.hid ha
          have hb0 := litF_bound t0 (A.length : Int) N ha (by omega)
          simp only [sizes, List.length_singleton] at hn hsz hll
          have hb1 : -9223372036854775807 ≤ (litF t0 A.length).1 ∧ (litF t0 A.length).1 ≤ 9223372036854775807 := by omega
          have HBW : Hid (Below w.heap.size w (w.alloc (.cells #[.int .i64 3, .int .i64 tv, .int .i64 k, .slice (some ⟨b, o, none⟩) 1 cap] 24))) := (Below.refl _ _).alloc (Nat.le_refl _) _
          clear ha hb0
          have el : (litF (.mk 3 tv k [t0]) A.length).1 = -(litF t0 A.length).1 := by rw [litF, if_neg (by omega), if_pos rfl]; simp [litsF]
          have en : newsV (.mk 3 tv k [t0]) A = newsV t0 A := by rw [newsV, if_neg (by omega), if_pos rfl]; simp [newsVs]
          rw [el, en]
          generalize hy : (litF t0 A.length).1 = y at hb1 ⊢
          have HY := Lib.hid hy
          clear hy el en
          go_enter Tryd.func8, Tryd.ntmps8
          go_wp2_with fail
          refine (IH.out t0 _ N A av q _ B0 rb (by omega) HA1.out hN hA (by omega) (htj.agree (agree_of_below (HBW.out.mono hB0))) (by simp; omega) hrb HQB.out (HR.out.below HBW.out)).mono ?_
          intro e w' hp
          have hp' := hp
          obtain ⟨rfl, _⟩ := hp'
          rw [HY.out]
          have HP := Lib.hid hp
          clear hp
          go_wp2_with fail
          go_ret
          exact RdPost.ahead HBW.out HP.out
      · have hk2 : (kind == 2) = false := by simpa using h2
        have hk3 : (kind == 3) = false := by simpa using h3
        have el : (litF (.mk kind tv k l) A.length).1 = (litsF l A.length).2.2 := by rw [litF, if_neg h2, if_neg h3]
        have en : newsV (.mk kind tv k l) A = newsVs l A ++ [valT (.mk kind tv k l) A] := by rw [newsV, if_neg h2, if_neg h3]
        rw [el, en]
        clear el en h2 h3
        have HCS := Lib.hid hcs
        clear hcs
        obtain ⟨i0, hi, hz0, hz1, hz2⟩ := info_parts rd_info
        go_enter Tryd.func8, Tryd.ntmps8
        go_wp2_with fail
        go_loopw [28, 5, 7, 8] (fun i c _ _ wr => ∃ (j : Nat) (av' : Value) (q' : Option Nat), i = .int .i64 j ∧ c = .int .i64 (cntT (l.take j) A) ∧ RdRel w wr rb q (.cells #[.int .i64 kind, .int .i64 tv, .int .i64 k, .slice a l.length cap] 24) l A j av' q') (fun i _ _ _ _ => l.length - (intOf i).toNat)
        case atStart => exact ⟨0, av, q, rfl, by simp [cntT], RdRel.start _ l HR.out⟩
        case round =>
          obtain ⟨j, av', q', rfl, rfl, R⟩ := hrel
          have hj := R.le
          have hb : Below B0 w wr := R.mod.below hB0 (fun k hk => by rcases hk with rfl | hk; exact hrb; exact HQB.out k hk)
          have hsize := R.size
          have hcl : cntT (l.take j) A ≤ l.length := by have := cntT_le A (l.take j); simp at this; omega
          have hAn : (newsVs (l.take j) A).length ≤ sizes l := by
            have h1 := newsVs_length (l.take j) A (A.length : Int) N (mayAll_take HA.out j)
            have h2 := litsF_bound (l.take j) (A.length : Int) N (mayAll_take HA.out j) (by omega)
            have h3 := sizes_take_le l j
            omega
          by_cases hlt : j < l.length
          · obtain ⟨rfl, hbl⟩ := hsl (by omega)
            obtain ⟨k0, k1, k2, a1, n1, cap1, e0, e1, e2, e3, htj⟩ := TreesIn.at HL.out hb hbl j hlt
            have hma := mayAll_at HA.out j hlt
            have hs1 := sizes_take_succ l j hlt
            have hs2 := sizes_take_le l (j + 1)
            have hs4 := size_le_sizes l j hlt
            have hAj : (A ++ newsVs (l.take j) A).length ≤ A.length + sizes (l.take j) := by
              have h1 := newsVs_length (l.take j) A (A.length : Int) N (mayAll_take HA.out j)
              have h2 := litsF_bound (l.take j) (A.length : Int) N (mayAll_take HA.out j) (by omega)
              rw [List.length_append]; omega
            have hNj : N < ((A ++ newsVs (l.take j) A).length : Int) := by rw [List.length_append]; omega
            have hAj1 : 1 ≤ (A ++ newsVs (l.take j) A).length := by rw [List.length_append]; omega
            have hIH := IH.out l[j] _ N (A ++ newsVs (l.take j) A) av' q' (wr.alloc (.cells #[.int .i64 k0, .int .i64 k1, .int .i64 k2, .slice a1 n1 cap1] 24)) B0 rb (by omega) hma.1 hNj hAj1 (by omega)
              (htj.agree (agree_of_below (hb.alloc (by omega) _))) (by simp; omega) hrb (fun k hk => by rcases R.fresh with f | ⟨k', f, hk'⟩; exact HQB.out k (f ▸ hk); rw [f] at hk; simp at hk; omega) (R.rd.below ((Below.refl _ _).alloc (Nat.le_refl _) _))
            have hnn : A ++ newsVs (l.take j) A ++ newsV l[j] (A ++ newsVs (l.take j) A) = A ++ newsVs (l.take (j + 1)) A := by
              rw [newsV_append l[j] N A _ hma.1 (by omega), List.take_succ_eq_append_getElem hlt, newsVs_snoc, List.append_assoc]
            have hval : truthF (litF l[j] (A ++ newsVs (l.take j) A).length).1 (A ++ newsVs (l.take (j + 1)) A) = valT l[j] A := by
              have h := (litF_main l[j] N (A ++ newsVs (l.take j) A) (newsV l[j] (A ++ newsVs (l.take j) A)) [] hma.1 hNj hAj1 rfl).2
              rw [List.append_nil, hnn, valT_append l[j] N A _ hma.1 (by omega)] at h
              exact h
            have hcnt : cntT (l.take (j + 1)) A = cntT (l.take j) A + if valT l[j] A then 1 else 0 := by rw [List.take_succ_eq_append_getElem hlt, cntT_snoc]
            have hyb := litF_bound l[j] ((A ++ newsVs (l.take j) A).length : Int) N hma.1 (by omega)
            have hyr : -1000000000 ≤ (litF l[j] (A ++ newsVs (l.take j) A).length).1 ∧ (litF l[j] (A ++ newsVs (l.take j) A).length).1 ≤ 1000000000 := by omega
            rw [hnn] at hIH
            have HI := Lib.hid hIH
            have HRR := Lib.hid R
            have HV := Lib.hid (And.intro hval hcnt)
            clear hIH R hma hs1 hs2 hs4 hAj hNj hAj1 hnn hval hcnt hyb hAn
            generalize hy : (litF l[j] (A ++ newsVs (l.take j) A).length).1 = y at *
            clear hy
            go_wp2_with fail
            refine HI.out.mono ?_
            intro e w2 hp
            have HP := Lib.hid hp
            obtain ⟨rfl, av2, q2, hrd, _, _⟩ := hp
            have c2 : w2.cell? ⟨rb, 0, none⟩ = some av2 := cell_of_heap hrd.box rfl
            obtain ⟨aa, acap, hav⟩ := hrd.own.form
            rw [dbools_length] at hav
            generalize hal : (A ++ newsVs (l.take (j + 1)) A).length = al at hav
            subst hav
            have HRD : Hid (DAt w2 (· < w2.heap.size) (.sl (dbools (A ++ newsVs (l.take (j + 1)) A))) [.slice aa al acap]) := hrd.own.read (fun _ h => h.elim) (fun k hk => hrd.own.row_lt hk) (by rw [dbools_widths]; simp)
            clear hrd hal
            go_wp2_with fail
            refine (truth_any y (A ++ newsVs (l.take (j + 1)) A) _ _ hyr HRD.out).mono ?_
            rintro e w3 ⟨rfl, rfl⟩
            rw [HV.out.1]
            obtain ⟨av3, q3, R3⟩ := HRR.out.step HR.out.lt (fun k hk => HR.out.own.row_lt hk) hlt HP.out
            have HR3 := Lib.hid R3
            have hcnt := HV.out.2
            clear R3
            generalize valT l[j] A = r at hcnt ⊢
            have HCN := Lib.hid hcnt
            clear hcnt
            cases r
            · go_wp2_with fail
              refine ⟨⟨j + 1, av3, q3, by go_num, ?_, HR3.out⟩, by simp [intOf]; omega⟩
              have := HCN.out
              simp at this
              rw [this]
            · go_wp2_with fail
              refine ⟨⟨j + 1, av3, q3, by go_num, ?_, HR3.out⟩, by simp [intOf]; omega⟩
              have := HCN.out
              simp at this
              rw [this]; go_num
          · have hjl : j = l.length := by omega
            have htk : l.take j = l := List.take_of_length_le (by omega)
            have hrd := R.rd
            rw [htk] at hrd hcl hAn
            rw [htk]
            have hnl := newsVs_length l A (A.length : Int) N HA.out
            obtain ⟨q0, q1, q2, q3⟩ := (show wr.cell? ⟨w.heap.size, 0, none⟩ = some (.int .i64 kind) ∧ wr.cell? ⟨w.heap.size, 1, none⟩ = some (.int .i64 tv) ∧ wr.cell? ⟨w.heap.size, 2, none⟩ = some (.int .i64 k) ∧ wr.cell? ⟨w.heap.size, 3, none⟩ = some (.slice a l.length cap) from ⟨cell_of_heap R.box rfl, cell_of_heap R.box rfl, cell_of_heap R.box rfl, cell_of_heap R.box rfl⟩)
            obtain ⟨aa, acap, hav⟩ := hrd.own.form
            rw [dbools_length] at hav
            have hal : (A ++ newsVs l A).length ≤ 2000000 := by rw [List.length_append]; omega
            have hlit : (litsF l A.length).2.2 = ((A ++ newsVs l A).length : Int) := by rw [List.length_append]; omega
            generalize hAL : (A ++ newsVs l A).length = al at *
            subst hav
            have c0 : wr.cell? ⟨rb, 0, none⟩ = some (.slice aa al acap) := cell_of_heap hrd.box rfl
            have f0 : wr.frozen? ⟨rb, 0, none⟩ = false := frozen_of_heap hrd.box
            have HAL := Lib.hid hAL
            have HLIT := Lib.hid hlit
            have HRD := Lib.hid hrd
            have HRR := Lib.hid R
            have hrbl : rb < wr.heap.size := hrd.lt
            clear hAL hrd R hnl hlit htk hb hAn hjl
            -- the node's value
            have HFIN : Hid (∀ (vb : Bool) (g cp : Nat) (w3 : World), w3.ownsRow 0 4 1 (.slice (some ⟨g, 0, none⟩) (al + 1) cp) (al + 1) ((A ++ newsVs l A).map Value.bool ++ [.bool vb]) → (wr.alloc (.cells #[.bool vb] 4)).grownBy w3 (Value.slice aa al acap).ownBlock → ((Value.slice aa al acap).ownBlock = some g ∨ g = wr.heap.size + 1) →
                (w3.cell? ⟨rb, 0, none⟩ = some (.slice aa al acap) ∧ w3.frozen? ⟨rb, 0, none⟩ = false) ∧ RdPost w rb 35 4 q (.int .i64 (al : Int)) (A ++ (newsVs l A ++ [vb])) (.returned (.int .i64 (al : Int))) (w3.setCell ⟨rb, 0, none⟩ (.slice (some ⟨g, 0, none⟩) (al + 1) cp))) := fun vb g cp w3 hown hgrow hat => by
              have o1 := HRD.out.own.alloc (.cells #[.bool vb] 4)
              have hds : DsAt (wr.alloc (.cells #[.bool vb] 4)) (fun _ => False) (dbools (A ++ newsVs l A)) ((A ++ newsVs l A).map Value.bool) := DsAt.bools
              obtain ⟨g1, g2, g3⟩ := o1.appended (ys := dbools [vb]) hds (by rw [dbools_length, HAL.out]; simpa using hown) hgrow (by rcases hat with h | h; exact .inl h.symm; exact .inr (by simp [Value.ownBlock, h])) (DsAt.bools (xs := [vb]))
              have hqr := HRD.out.own.row
              have M1 : Chalk.Mod (fun k => q' = some k) wr w3 := ((Mod.refl _ wr).alloc _).trans g2 (fun _ _ h => h)
              have hbox : w3.heap[rb]? = some (.cells #[.slice aa al acap] 35 (0, 0)) := (M1.block rb hrbl (fun e => HRD.out.ne e)).trans HRD.out.box
              have hgr : g ≠ rb := by
                rcases hat with h | h
                · rw [hqr] at h; intro e; subst e; exact HRD.out.ne h
                · omega
              have hsz3 := M1.size
              have hrsz := HRR.out.size
              refine ⟨⟨cell_of_heap hbox rfl, frozen_of_heap hbox⟩, rfl, _, some g, ⟨by rw [box_store _ hbox]; rfl, ?_, by simpa using hgr⟩, ?_, ?_⟩
              · have g1' : Chalk.Own w3 (fun _ => False) 4 1 (.slice (some ⟨g, 0, none⟩) (al + 1) cp) (some g) (dbools (A ++ (newsVs l A ++ [vb]))) := by
                  rw [← List.append_assoc, dbools_append]; exact (by simpa [Value.ownBlock] using g1)
                exact g1'.store _ id (by simpa using hgr)
              · rcases hat with h | h
                · rw [hqr] at h
                  rcases HRR.out.fresh with f | ⟨k', f, hk'⟩
                  · exact .inl (by rw [← h, f])
                  · exact .inr ⟨g, rfl, by rw [f] at h; simp at h; omega⟩
                · exact .inr ⟨g, rfl, by omega⟩
              · refine (HRR.out.mod.trans M1 (fun i hi h => ?_)).setCell (p := ⟨rb, 0, none⟩) (fun _ => .inl rfl) _
                rcases HRR.out.fresh with f | ⟨k', f, hk'⟩
                · exact .inr (f ▸ h)
                · rw [f] at h; simp at h; omega
            have HROW : Hid (∀ vb : Bool, (wr.alloc (.cells #[.bool vb] 4)).ownsRow 0 4 1 (.slice aa al acap) al ((A ++ newsVs l A).map Value.bool)) := fun vb => by
              obtain ⟨cs, h1, h2⟩ := (HRD.out.own.alloc (.cells #[.bool vb] 4)).cells
              rw [dbools_length, HAL.out] at h1
              have hcs' := bools_inv h2
              rw [hcs'] at h1; exact h1
            generalize hc0 : cntT l A = cn at *
            have HC0 := Lib.hid hc0
            clear hc0
            rcases HCS.out with ⟨rfl, rfl, rfl, _⟩ | ⟨rfl, rfl, rfl, _⟩ | ⟨rfl, _⟩ | ⟨rfl, _⟩ | ⟨rfl, rfl, rfl⟩ | ⟨rfl, rfl, rfl⟩ | ⟨rfl, rfl, hk1, hk4⟩
            case inr.inr.inl => cases hk2
            case inr.inr.inr.inl => cases hk3
            · have HVT := Lib.hid (show valT (.mk 1 0 0 l) A = false from by rw [valT_1]; rfl)
              go_wp2_with (at_builtin; go_must (refine wpList_append_lies _ rfl _ _ 25 rfl 0 4 i0 _ 1 1 Tryd.underlying25 hi hz0 hz1 hz2 rfl (by decide) (.slice aa al acap) _ _ rfl (HROW.out false) ⟨wr.heap.size, 0, none⟩ 1 1 [.bool false] rfl rfl (World.news_of_block (heap_alloc_new wr _)) (by simp [Value.oneCell']) (by omega) (by unfold maxLen; omega) (by omega) (Nat.zero_le _) (wr.heap.size + 1) (by simp) ?_); intro g cp w3 hown hgrow hat hglt; obtain ⟨⟨hcz, hfz⟩, hpost⟩ := HFIN.out false g cp w3 hown hgrow hat; have HPO := Lib.hid hpost; clear hpost hown hgrow hat)
              go_ret
              rw [HLIT.out, HVT.out]
              exact HPO.out
            · have HVT := Lib.hid (show valT (.mk 1 1 0 l) A = true from by rw [valT_1]; rfl)
              go_wp2_with (at_builtin; go_must (refine wpList_append_lies _ rfl _ _ 25 rfl 0 4 i0 _ 1 1 Tryd.underlying25 hi hz0 hz1 hz2 rfl (by decide) (.slice aa al acap) _ _ rfl (HROW.out true) ⟨wr.heap.size, 0, none⟩ 1 1 [.bool true] rfl rfl (World.news_of_block (heap_alloc_new wr _)) (by simp [Value.oneCell']) (by omega) (by unfold maxLen; omega) (by omega) (Nat.zero_le _) (wr.heap.size + 1) (by simp) ?_); intro g cp w3 hown hgrow hat hglt; obtain ⟨⟨hcz, hfz⟩, hpost⟩ := HFIN.out true g cp w3 hown hgrow hat; have HPO := Lib.hid hpost; clear hpost hown hgrow hat)
              go_ret
              rw [HLIT.out, HVT.out]
              exact HPO.out
            · have hv : valT (.mk 4 0 0 l) A = ((cn : Int) == (l.length : Int)) := by
                rw [valT_4, HC0.out]
                by_cases h0 : cn = l.length
                · rw [decide_eq_true h0]; exact (beq_iff_eq.2 (by omega)).symm
                · rw [decide_eq_false h0]; exact (beq_eq_false_iff_ne.2 (by omega)).symm
              generalize hvb : ((cn : Int) == (l.length : Int)) = vb at *
              have HVT := Lib.hid hv
              clear hv
              go_wp2_with (at_builtin; go_must (refine wpList_append_lies _ rfl _ _ 25 rfl 0 4 i0 _ 1 1 Tryd.underlying25 hi hz0 hz1 hz2 rfl (by decide) (.slice aa al acap) _ _ rfl (HROW.out vb) ⟨wr.heap.size, 0, none⟩ 1 1 [.bool vb] rfl rfl (World.news_of_block (heap_alloc_new wr _)) (by simp [Value.oneCell']) (by omega) (by unfold maxLen; omega) (by omega) (Nat.zero_le _) (wr.heap.size + 1) (by simp) ?_); intro g cp w3 hown hgrow hat hglt; obtain ⟨⟨hcz, hfz⟩, hpost⟩ := HFIN.out vb g cp w3 hown hgrow hat; have HPO := Lib.hid hpost; clear hpost hown hgrow hat)
              go_ret
              rw [HLIT.out, HVT.out]
              exact HPO.out
            · have hv : valT (.mk 5 0 0 l) A = decide (0 < cn) := by rw [valT_5, HC0.out]
              have hvb0 : decide ((0 : Int) < (cn : Int)) = decide (0 < cn) := by simp
              generalize hvb : decide (0 < cn) = vb at *
              have HVT := Lib.hid hv
              clear hv
              go_wp2_with (at_builtin; go_must (refine wpList_append_lies _ rfl _ _ 25 rfl 0 4 i0 _ 1 1 Tryd.underlying25 hi hz0 hz1 hz2 rfl (by decide) (.slice aa al acap) _ _ rfl (HROW.out vb) ⟨wr.heap.size, 0, none⟩ 1 1 [.bool vb] rfl rfl (World.news_of_block (heap_alloc_new wr _)) (by simp [Value.oneCell']) (by omega) (by unfold maxLen; omega) (by omega) (Nat.zero_le _) (wr.heap.size + 1) (by simp) ?_); intro g cp w3 hown hgrow hat hglt; obtain ⟨⟨hcz, hfz⟩, hpost⟩ := HFIN.out vb g cp w3 hown hgrow hat; have HPO := Lib.hid hpost; clear hpost hown hgrow hat)
              go_ret
              rw [HLIT.out, HVT.out]
              exact HPO.out
            · have hv : valT (.mk 6 0 k l) A = decide (k ≤ (cn : Int)) := by rw [valT_6, HC0.out]
              generalize hvb : decide (k ≤ (cn : Int)) = vb at *
              have HVT := Lib.hid hv
              clear hv
              go_wp2_with (at_builtin; go_must (refine wpList_append_lies _ rfl _ _ 25 rfl 0 4 i0 _ 1 1 Tryd.underlying25 hi hz0 hz1 hz2 rfl (by decide) (.slice aa al acap) _ _ rfl (HROW.out vb) ⟨wr.heap.size, 0, none⟩ 1 1 [.bool vb] rfl rfl (World.news_of_block (heap_alloc_new wr _)) (by simp [Value.oneCell']) (by omega) (by unfold maxLen; omega) (by omega) (Nat.zero_le _) (wr.heap.size + 1) (by simp) ?_); intro g cp w3 hown hgrow hat hglt; obtain ⟨⟨hcz, hfz⟩, hpost⟩ := HFIN.out vb g cp w3 hown hgrow hat; have HPO := Lib.hid hpost; clear hpost hown hgrow hat)
              go_ret
              rw [HLIT.out, HVT.out]
              exact HPO.out

end Go.Proofs.YtpacnaeckbcpjaaDoor
