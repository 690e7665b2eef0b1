/- Joined texts: EvO, EvP, EvQ. -/
import Derived.Test.YtjjkfgjnadaheaaGreatDoorB40
import Derived.Test.YtjjkfgjnadaheaaGreatDoorB35
import Derived.Test.YtjjkfgjnadaheaaGreatDoorB17

/- eval.holds: quantifiers. -/
namespace Go.Proofs.YtjjkfgjnadaheaaGreatDoor
open Go.RowKit Go.Chalk
attribute [local go_sem] Oper.semAt_some
set_option maxRecDepth 100000 in
set_option maxHeartbeats 4000000 in
theorem holds_quant (s : Schl) (x : SchA) (l : List Plc) (y : SlA) (env : List Ev) (z : SlA) (kind : Int) (name : Bs) (n : Int) (binds : List Bnd) (g : Frm) (fa : FrmA) (w : World) (hk : 14 <= kind /\ kind <= 17) (hg : GG w) (hI : ItoaAt) (hs : SchIn w (· < w.heap.size) s x) (hf : SchSmall s)
    (hx : FrmIn w (· < w.heap.size) (.mk kind name n [] binds [g]) fa) (hz : SlIn w (· < w.heap.size) (env.map Ev.toD) z) (hlen : env.length + binds.length <= 2000000) (hmany : (tuplesF (sizesF s binds)).length <= 1048576)
    (ih : ∀ (t : List Nat) (ht : t ∈ tuplesF (sizesF s binds)) (y1 : FrmA) (z1 : SlA) (W : World), Below w.heap.size w W -> FrmIn w (· < w.heap.size) g y1 -> SlIn W (· < W.heap.size) ((withF env binds t).map Ev.toD) z1 -> Calls Tryz.prog 56 #[stV s x l y, .slice z1.a (withF env binds t).length z1.cap, ndV (g, y1)] W fun e w' => e = .returned (.bool (holdsF s l (withF env binds t) g)) /\ Below W.heap.size W w') :
    Calls Tryz.prog 56 #[stV s x l y, .slice z.a env.length z.cap, ndV (.mk kind name n [] binds [g], fa)] w fun e w' => e = .returned (.bool (holdsF s l env (.mk kind name n [] binds [g]))) /\ Below w.heap.size w w' := by
  have hb := hdW_below w s x l y env z (.mk kind name n [] binds [g]) fa
  have hr : holdsF s l env (.mk kind name n [] binds [g]) = quantHolds kind n ((tuplesF (sizesF s binds)).countP (fun t => holdsF s l (withF env binds t) g)) (tuplesF (sizesF s binds)).length := by
    rw [holdsF_nil, if_neg (by omega), if_neg (by omega), if_neg (by omega), if_neg (by omega), if_neg (by omega), if_neg (by omega)]
    simp only [holdsAt]
  rw [hr]
  obtain ⟨y1, h1, h2⟩ := hx.l.frm 0 (by simp [Frm.l])
  obtain ⟨hla, hlb⟩ := hx.l.at_ (by simp [Frm.l])
  obtain ⟨mb, mo, q1, q2, q3⟩ := hg.atoms
  have hm0 := (hb.cell (World.block_lt_of_cell? w _ q1)).trans q1
  have hl := q3 (hdW w s x l y env z (.mk kind name n [] binds [g]) fa) ((hb.block _ (Array.getElem?_eq_some_iff.1 q2).1).trans q2) (.int .i64 kind) ⟨_, (show I64 kind by unfold I64; omega), rfl⟩
  have hkd : (decide (3 <= kind) && decide (kind <= 8)) = false := by simp; omega
  have hat : atomFn kind = .nilFunc := by unfold atomFn; rw [if_neg (by omega), if_neg (by omega), if_neg (by omega), if_neg (by omega), if_neg (by omega), if_neg (by omega)]
  replace hl := hl.trans (show Result.ok (Value.tuple #[atomFn kind, .bool (decide (3 <= kind) && decide (kind <= 8))]) _ = Result.ok (Value.tuple #[.nilFunc, .bool false]) _ by rw [hat, hkd])
  have k1 : (kind == 1) = false := by simp; omega
  have k2 : (kind == 2) = false := by simp; omega
  have k9 : (kind == 9) = false := by simp; omega
  have k10 : (kind == 10) = false := by simp; omega
  have k11 : (kind == 11) = false := by simp; omega
  have k12 : (kind == 12) = false := by simp; omega
  have k13 : (kind == 13) = false := by simp; omega
  have HB := Lib.hid hb
  have hmf : ∀ (fn : Fn) (first cap : Array Value) (w : World), (Instr.makeFunc fn first cap).run Tryz.prog w = .ok (.func fn first cap) w := fun _ _ _ _ => rfl
  have HET := Lib.hid (fun (W : World) (hW : Below w.heap.size w W) => etuples_any s x binds fa.b W hI (hs.later hW hW.size) hf (hx.binds.later hW hW.size) (by omega))
  unfold stV at ih ⊢
  have HIH := Lib.hid ih
  have HX := Lib.hid hx
  have HZ := Lib.hid hz
  have HK := Lib.hid hk
  have HL := Lib.hid hlen
  clear hg hx hs hf hz hk hkd hat ih hr q1 q2 q3 hI
  simp only [hdW, ndV, FrmA.cells, SlA.val, Frm.kind, Frm.name, Frm.n, Frm.terms, Frm.binds, Frm.l, List.length_cons, List.length_nil, Nat.zero_add, Nat.reduceAdd, SchA.cells, hla] at HB hl hm0 HET ⊢
  have HLB := Lib.hid (And.intro h2 hlb)
  clear hlb h2 hla
  refine (callsIn_wide (n := 0)).1 (callsIn_of_wp_marks Tryz.func56 rfl trivial ?_)
  simp only [Tryz.ntmps56, List.size_toArray, List.length_cons, List.length_nil, Nat.reduceAdd, Nat.reduceSub, Array.replicate_succ, Array.replicate_zero, List.push_toArray, List.append_toArray, List.nil_append, List.cons_append]
  gi_wp2_with fail
  refine ⟨trivial, rfl, ?_⟩
  generalize hW5 : (((((w.alloc _).alloc _).alloc _).alloc _).alloc _) = W5
  have hsz : W5.heap.size = w.heap.size + 5 := by rw [<- hW5]; simp
  have hb5 : Below w.heap.size w W5 := by rw [<- hW5]; exact (((((Below.refl _ _).alloc (Nat.le_refl _) _).alloc (by simp) _).alloc (by simp; omega) _).alloc (by simp; omega) _).alloc (by simp; omega) _
  have g0 : W5.heap[w.heap.size]? = some (.cells #[.slice x.slots.a s.slots.length x.slots.cap, .slice x.rooms.a s.rooms.length x.rooms.cap, .slice x.people.a s.people.length x.people.cap, .slice x.groups.a s.groups.length x.groups.cap, .slice x.lessons.a s.lessons.length x.lessons.cap, .slice y.a l.length y.cap] 105 (0, 0)) := by rw [<- hW5]; simp only [heap_get, World.size_alloc]; repeat (first | rw [if_pos trivial] | rw [if_pos (by omega)] | rw [if_neg (by omega)])
  have g1 : W5.heap[w.heap.size + 1]? = some (.cells #[.slice z.a env.length z.cap] 29 (0, 0)) := by rw [<- hW5]; simp only [heap_get, World.size_alloc]; repeat (first | rw [if_pos trivial] | rw [if_pos (by omega)] | rw [if_neg (by omega)])
  have g2 : W5.heap[w.heap.size + 1 + 1]? = some (.cells #[.int .i64 kind, .string ⟨name.toArray⟩, .int .i64 n, .slice fa.t.a 0 fa.t.cap, .slice fa.b.a binds.length fa.b.cap, .slice (some ⟨fa.l.b, fa.l.o, none⟩) 1 fa.l.cap] 34 (0, 0)) := by rw [<- hW5]; simp only [heap_get, World.size_alloc]; repeat (first | rw [if_pos trivial] | rw [if_pos (by omega)] | rw [if_neg (by omega)])
  have g3 : W5.heap[w.heap.size + 1 + 1 + 1]? = some (.cells #[.int .i64 0] 3 (0, 0)) := by rw [<- hW5]; simp only [heap_get, World.size_alloc]; repeat (first | rw [if_pos trivial] | rw [if_pos (by omega)] | rw [if_neg (by omega)])
  have g4 : W5.heap[w.heap.size + 1 + 1 + 1 + 1]? = some (.cells #[.int .i64 0] 3 (0, 0)) := by rw [<- hW5]; simp only [heap_get, World.size_alloc]; repeat (first | rw [if_pos trivial] | rw [if_pos (by omega)] | rw [if_neg (by omega)])
  refine (callsIn_wide.2 (HET.out W5 hb5)).mono ?_
  rintro e w6 ⟨sb, lb, rfl, hit, hb6⟩
  have k0 : ∀ {k : Nat} {o : Obj}, W5.heap[k]? = some o -> w6.heap[k]? = some o := fun h => (hb6.block _ (Array.getElem?_eq_some_iff.1 h).1).trans h
  have G : Hid (W5.heap.size = w.heap.size + 5 /\ W5.heap.size <= w6.heap.size /\ Below w.heap.size w w6 /\ w6.heap[w.heap.size]? = some _ /\ w6.heap[w.heap.size + 1]? = some _ /\ w6.heap[w.heap.size + 1 + 1]? = some _ /\ w6.heap[w.heap.size + 1 + 1 + 1]? = some _ /\ w6.heap[w.heap.size + 1 + 1 + 1 + 1]? = some _) := Lib.hid ⟨hsz, hb6.size, hb5.trans (hb6.mono hb5.size), k0 g0, k0 g1, k0 g2, k0 g3, k0 g4⟩
  have HIT := Lib.hid hit
  clear hsz hb5 g0 g1 g2 g3 g4 k0 hit hb6 hW5 HET hb hl hm0
  gi_wp2_with fail
  -- THE RANGE
  refine wp_rangeV_fx (gf := 181) (lb := #[.pointer (some ⟨sb, 0, none⟩), .pointer (some ⟨lb, 0, none⟩)]) rfl (enters_of Tryz.func181 (by kernel_rfl) rfl)
    HIT.out rfl (fun k => k = w.heap.size + 1 + 1 + 1 ∨ k = w.heap.size + 1 + 1 + 1 + 1) (fun k hk => by have := G.out.1; omega) (fun k hk => by have := G.out.1; have := G.out.2.1; omega)
    (fun i W => W.heap[w.heap.size + 1 + 1 + 1]? = some (.cells #[.int .i64 (((tuplesF (sizesF s binds)).take i).countP (fun t => holdsF s l (withF env binds t) g))] 3 (0, 0)) /\ W.heap[w.heap.size + 1 + 1 + 1 + 1]? = some (.cells #[.int .i64 i] 3 (0, 0)))
    (fun c i W => False)
    ?hI ?hIx ⟨G.out.2.2.2.2.2.2.1, G.out.2.2.2.2.2.2.2⟩ (fun lp i a' W => ∃ (z1 : SlA) (S : Nat -> Prop), (∀ k, S k -> k ≠ lp /\ k < W.heap.size /\ ¬ (k = w.heap.size + 1 + 1 + 1 ∨ k = w.heap.size + 1 + 1 + 1 + 1)) /\ SlIn W S (dints (nats ((tuplesF (sizesF s binds))[i]?.getD []))) z1 /\ a' = { tmps := #[Value.agg #[Value.slice x.slots.a s.slots.length x.slots.cap, Value.slice x.rooms.a s.rooms.length x.rooms.cap, Value.slice x.people.a s.people.length x.people.cap, Value.slice x.groups.a s.groups.length x.groups.cap, Value.slice x.lessons.a s.lessons.length x.lessons.cap, Value.slice y.a l.length y.cap], Value.slice z.a env.length z.cap, Value.agg #[Value.int IntKind.i64 kind, Value.string { data := List.toArray name }, Value.int IntKind.i64 n, Value.slice fa.t.a 0 fa.t.cap, Value.slice fa.b.a binds.length fa.b.cap, Value.slice (some { block := fa.l.b, off := fa.l.o }) 1 fa.l.cap], Value.pointer (some { block := w.heap.size, off := 0 }), Value.pointer (some { block := w.heap.size + 1, off := 0 }), Value.pointer (some { block := w.heap.size + 1 + 1, off := 0 }), Value.bool false, Value.func (Fn.func 105) #[] #[Value.pointer (some { block := w.heap.size, off := 0 }), Value.pointer (some { block := w.heap.size + 1, off := 0 }), Value.pointer (some { block := w.heap.size + 1 + 1, off := 0 })], Value.nilFunc, Value.bool false, Value.pointer (some { block := w.heap.size + 1 + 1 + 1, off := 0 }), Value.pointer (some { block := w.heap.size + 1 + 1 + 1 + 1, off := 0 }), .slice z1.a binds.length z1.cap, Value.func (Fn.func 105) #[] #[Value.pointer (some { block := w.heap.size, off := 0 }), Value.pointer (some { block := w.heap.size + 1, off := 0 }), Value.pointer (some { block := w.heap.size + 1 + 1, off := 0 })], Value.pointer (some { block := w.heap.size + 1 + 1, off := 0 }), Value.int IntKind.i64 kind, Value.bool false, Value.bool false, Value.bool false, undef, undef, undef, Value.bool false, Value.bool false, undef, undef, undef, undef, undef, undef, undef, undef, undef, undef, undef, undef, undef, undef, undef, undef, undef, undef, undef, undef, Value.bool false, Value.bool false, undef, undef, undef, Value.bool false, Value.bool false, undef, undef, undef, undef, undef, undef, Value.bool false, Value.bool false, undef, undef, undef, undef, undef, undef, Value.bool false, Value.bool false, undef, undef, undef, undef, undef, undef, undef, Value.tuple #[Value.nilFunc, Value.bool false], Value.map (some mb), Value.pointer (some { block := w.heap.size + 1 + 1, off := 0 }), Value.int IntKind.i64 kind, Value.tuple #[Value.nilFunc, Value.bool false], Value.nilFunc, Value.bool false, Value.bool false, undef, undef, undef, undef, undef, undef, undef, undef, undef, undef, undef, undef, undef, undef, undef, Value.pointer (some { block := w.heap.size, off := 0 }), Value.agg #[Value.slice x.slots.a s.slots.length x.slots.cap, Value.slice x.rooms.a s.rooms.length x.rooms.cap, Value.slice x.people.a s.people.length x.people.cap, Value.slice x.groups.a s.groups.length x.groups.cap, Value.slice x.lessons.a s.lessons.length x.lessons.cap], Value.pointer (some { block := w.heap.size + 1 + 1, off := 4 }), Value.slice fa.b.a binds.length fa.b.cap, Value.func (Fn.func 181) #[] #[Value.pointer (some { block := sb, off := 0 }), Value.pointer (some { block := lb, off := 0 })], .slice z1.a binds.length z1.cap, undef, undef, undef, undef, undef, undef, undef, undef, undef, undef, undef, undef, undef, undef, undef, undef, undef, undef, undef, undef, undef, undef, undef, undef, undef, undef, undef, undef, undef, undef, undef, undef, undef, undef, undef, undef], defers := [] }) ?hAx ?assign ?body ?done ?stop
  case hI => exact (FixStab.box (T := fun k => k = w.heap.size + 1 + 1 + 1 ∨ k = w.heap.size + 1 + 1 + 1 + 1) (B := w.heap.size + 1 + 1 + 1) (o := fun i => .cells #[.int .i64 (((tuplesF (sizesF s binds)).take i).countP (fun t => holdsF s l (withF env binds t) g))] 3 (0, 0)) (.inl rfl)).and (FixStab.box (T := fun k => k = w.heap.size + 1 + 1 + 1 ∨ k = w.heap.size + 1 + 1 + 1 + 1) (B := w.heap.size + 1 + 1 + 1 + 1) (o := fun i => .cells #[.int .i64 i] 3 (0, 0)) (.inr rfl))
  case hIx => exact fun c i A B S h hm hS => h
  case hAx => exact fun lp i a' A B ⟨z1, S, h1, h2, h3⟩ hm => ⟨z1, S, fun k hk => ⟨(h1 k hk).1, Nat.lt_of_lt_of_le (h1 k hk).2.1 hm.size, (h1 k hk).2.2⟩, h2.agree (hm.agree (fun k hk => ⟨(h1 k hk).2.1, (h1 k hk).1⟩)), h3⟩
  case assign =>
    rintro lp i v S W K hi ⟨z1, rfl, hz1⟩ hv hS hm hI hlt hK
    have HA := Lib.hid (And.intro hI (And.intro hz1 hS))
    have HKK := Lib.hid hK
    have hsl : (sizesF s binds).length = binds.length := by simp [sizesF]
    rw [hsl]
    clear hK hI hz1 hS hv hsl
    simp only [SlA.val]
    gi_wp2_with fail
    exact HKK.out _ _ (Chalk.Mod.refl _ _) HA.out.1 ⟨z1, S, fun k hk => ⟨(HA.out.2.2 k hk).2.2.2, (HA.out.2.2 k hk).2.1, (HA.out.2.2 k hk).2.2.1⟩, HA.out.2.1, rfl⟩
  case body =>
    rintro lp i a' W hi hm ⟨hn, ha⟩ ⟨z1, S, hS, hz1, rfl⟩ hT hwl hnl
    have hbW : Below w.heap.size w W := G.out.2.2.1.trans (hm.below (by have := G.out.1; have := G.out.2.1; omega) (fun k hk => by omega))
    have f0 := heap_kept G.out.2.2.2.1 hm (by omega)
    have f1 := heap_kept G.out.2.2.2.2.1 hm (by omega)
    have f2 := heap_kept G.out.2.2.2.2.2.1 hm (by omega)
    have q0 : W.cell? ⟨w.heap.size + 1 + 1 + 1 + 1, 0, none⟩ = some (.int .i64 i) := cell_of_heap ha rfl
    have q1 : W.frozen? ⟨w.heap.size + 1 + 1 + 1 + 1, 0, none⟩ = false := frozen_of_heap ha
    have hib : (i : Int) < 1048576 := by omega
    have HM := Lib.hid (And.intro hm (And.intro hbW (And.intro hn (And.intro ha (And.intro f0 (And.intro f1 f2))))))
    have HS1 := Lib.hid (And.intro hS hz1)
    have HI0 := Lib.hid hi
    clear hm hn ha hS hz1 hbW f0 f1 f2 hi hT hwl hnl
    gi_wp2_with fail
    obtain ⟨W1, hW1⟩ : ∃ W1, W1 = W.setCell ⟨w.heap.size + 1 + 1 + 1 + 1, 0, none⟩ (.int .i64 ((i : Int) + 1)) := ⟨_, rfl⟩
    rw [<- hW1]
    have m1 : Chalk.Mod (fun k => k = w.heap.size + 1 + 1 + 1 ∨ k = w.heap.size + 1 + 1 + 1 + 1) W W1 := by rw [hW1]; exact (Chalk.Mod.refl (fun k => k = w.heap.size + 1 + 1 + 1 ∨ k = w.heap.size + 1 + 1 + 1 + 1) _).setCell (p := ⟨w.heap.size + 1 + 1 + 1 + 1, 0, none⟩) (fun _ => .inr rfl) _
    have m2 : Chalk.Mod (fun k => k = w.heap.size + 1 + 1 + 1 + 1) W W1 := by rw [hW1]; exact (Chalk.Mod.refl (fun k => k = w.heap.size + 1 + 1 + 1 + 1) _).setCell (p := ⟨w.heap.size + 1 + 1 + 1 + 1, 0, none⟩) (fun _ => rfl) _
    have a1 : W1.heap[w.heap.size + 1 + 1 + 1 + 1]? = some (.cells #[.int .i64 ((i + 1 : Nat) : Int)] 3 (0, 0)) := by rw [hW1, box_store _ HM.out.2.2.2.1]; rfl
    have n1 := heap_kept HM.out.2.2.1 m2 (by omega)
    have e0 := heap_kept HM.out.2.2.2.2.1 m1 (by omega)
    have e1 := heap_kept HM.out.2.2.2.2.2.1 m1 (by omega)
    have e2 := heap_kept HM.out.2.2.2.2.2.2 m1 (by omega)
    have hbW1 : Below w.heap.size w W1 := HM.out.2.1.trans (m1.below (by have := HM.out.2.1.size; omega) (fun k hk => by omega))
    have hzz : SlIn W1 (· < W1.heap.size) (dints (nats ((tuplesF (sizesF s binds))[i]?.getD []))) z1 := (HS1.out.2.agree (m1.agree (fun k hk => ⟨(HS1.out.1 k hk).2.1, (HS1.out.1 k hk).2.2⟩))).mono (fun k hk => Nat.lt_of_lt_of_le (HS1.out.1 k hk).2.1 m1.size)
    have hgt : (tuplesF (sizesF s binds))[i]?.getD [] = (tuplesF (sizesF s binds))[i]'HI0.out := by rw [List.getElem?_eq_getElem HI0.out]; rfl
    have hmem : (tuplesF (sizesF s binds))[i]'HI0.out ∈ tuplesF (sizesF s binds) := List.getElem_mem _
    have hcn : ((((tuplesF (sizesF s binds)).take (i + 1)).countP (fun t => holdsF s l (withF env binds t) g) : Nat) : Int) = (((tuplesF (sizesF s binds)).take i).countP (fun t => holdsF s l (withF env binds t) g) : Nat) + (if holdsF s l (withF env binds ((tuplesF (sizesF s binds))[i]'HI0.out)) g = true then 1 else 0) := by
      rw [List.take_succ_eq_append_getElem HI0.out, List.countP_append, List.countP_singleton]; split <;> simp
    have hcl : ((((tuplesF (sizesF s binds)).take i).countP (fun t => holdsF s l (withF env binds t) g) : Nat) : Int) < 1048576 := by
      have h := List.countP_le_length (p := fun t => holdsF s l (withF env binds t) g) (l := (tuplesF (sizesF s binds)).take i)
      have h2 := List.length_take_le i (tuplesF (sizesF s binds))
      have := HI0.out
      omega
    rw [hgt] at hzz
    generalize (tuplesF (sizesF s binds))[i]'HI0.out = t at hzz hmem hcn
    have htl : t.length = binds.length := ((tuples_mem _ _).1 hmem).1.trans (by simp [sizesF])
    have HIV := Lib.hid (fun (x0 : SlA) (W2 : World) (hb2 : Below W1.heap.size W1 W2) (hx0 : SlIn W2 (· < W2.heap.size) ((withF env binds t).map Ev.toD) x0) => HIH.out t hmem y1 x0 W2 (hbW1.trans (hb2.mono hbW1.size)) h1 hx0)
    have hwt := with_any env z binds fa.b t z1 W1.drew (HZ.out.later hbW1.drew hbW1.drew.size) (HX.out.binds.later hbW1.drew hbW1.drew.size) (hzz.later (Below.refl _ _).drew (Nat.le_refl _)) HL.out htl
    rw [htl] at hwt
    have HWT : Hid (Calls Tryz.prog 110 #[.slice z.a env.length z.cap, .slice fa.b.a binds.length fa.b.cap, .slice z1.a binds.length z1.cap] W1.drew fun e w' => ∃ x0 : SlA, e = .returned (.slice x0.a (withF env binds t).length x0.cap) /\ SlIn w' (· < w'.heap.size) ((withF env binds t).map Ev.toD) x0 /\ Below W1.drew.heap.size W1.drew w') := Lib.hid (hwt.mono (by
      rintro e w' ⟨v, rfl, hon, hb⟩
      obtain ⟨x0, rfl, hx0⟩ := hon.onto.sl (by rw [widths_map Ev.flatT, List.length_map])
      exact ⟨x0, by rw [List.length_map], hx0, hb⟩))
    have HKS : Hid (∀ W', Below W1.heap.size W1 W' -> W'.cell? ⟨w.heap.size, 0, none⟩ = some (.slice x.slots.a s.slots.length x.slots.cap) /\ W'.cell? ⟨w.heap.size, 1, none⟩ = some (.slice x.rooms.a s.rooms.length x.rooms.cap) /\ W'.cell? ⟨w.heap.size, 2, none⟩ = some (.slice x.people.a s.people.length x.people.cap) /\ W'.cell? ⟨w.heap.size, 3, none⟩ = some (.slice x.groups.a s.groups.length x.groups.cap) /\ W'.cell? ⟨w.heap.size, 4, none⟩ = some (.slice x.lessons.a s.lessons.length x.lessons.cap) /\ W'.cell? ⟨w.heap.size, 5, none⟩ = some (.slice y.a l.length y.cap) /\ W'.cell? ⟨w.heap.size + 1, 0, none⟩ = some (.slice z.a env.length z.cap) /\ W'.cell? ⟨w.heap.size + 1 + 1, 4, none⟩ = some (.slice fa.b.a binds.length fa.b.cap) /\ W'.cell? ⟨w.heap.size + 1 + 1, 5, none⟩ = some (.slice (some ⟨fa.l.b, fa.l.o, none⟩) 1 fa.l.cap) /\ W'.cell? ⟨fa.l.b, fa.l.o, none⟩ = some (.int .i64 g.kind) /\ W'.cell? ⟨fa.l.b, fa.l.o + 1, none⟩ = some (.string ⟨g.name.toArray⟩) /\ W'.cell? ⟨fa.l.b, fa.l.o + 2, none⟩ = some (.int .i64 g.n) /\ W'.cell? ⟨fa.l.b, fa.l.o + 3, none⟩ = some (.slice y1.t.a g.terms.length y1.t.cap) /\ W'.cell? ⟨fa.l.b, fa.l.o + 4, none⟩ = some (.slice y1.b.a g.binds.length y1.b.cap) /\ W'.cell? ⟨fa.l.b, fa.l.o + 5, none⟩ = some (.slice y1.l.a g.l.length y1.l.cap)) :=
      Lib.hid (fun W' hW => by
        have hw : Below w.heap.size w W' := hbW1.trans (hW.mono hbW1.size)
        have c1 := (hW.block w.heap.size (Array.getElem?_eq_some_iff.1 e0).1).trans e0
        have c2 := (hW.block (w.heap.size + 1) (Array.getElem?_eq_some_iff.1 e1).1).trans e1
        have c3 := (hW.block (w.heap.size + 1 + 1) (Array.getElem?_eq_some_iff.1 e2).1).trans e2
        obtain ⟨d0, d1, d2, d3, d4, d5⟩ := (HLB.out.1).six
        simp only [Nat.zero_mul, Nat.add_zero, Frm.l, List.getElem_cons_zero, SlA.val] at d0 d1 d2 d3 d4 d5
        have hlb := HLB.out.2
        refine ⟨cell_of_heap c1 rfl, cell_of_heap c1 rfl, cell_of_heap c1 rfl, cell_of_heap c1 rfl, cell_of_heap c1 rfl, cell_of_heap c1 rfl, cell_of_heap c2 rfl, cell_of_heap c3 rfl, cell_of_heap c3 rfl, ?_, ?_, ?_, ?_, ?_, ?_⟩
        · exact (hw.cell (p := ⟨fa.l.b, fa.l.o, none⟩) hlb).trans d0
        · exact (hw.cell (p := ⟨fa.l.b, fa.l.o + 1, none⟩) hlb).trans d1
        · exact (hw.cell (p := ⟨fa.l.b, fa.l.o + 2, none⟩) hlb).trans d2
        · exact (hw.cell (p := ⟨fa.l.b, fa.l.o + 3, none⟩) hlb).trans d3
        · exact (hw.cell (p := ⟨fa.l.b, fa.l.o + 4, none⟩) hlb).trans d4
        · exact (hw.cell (p := ⟨fa.l.b, fa.l.o + 5, none⟩) hlb).trans d5)
    have HN := Lib.hid (And.intro hcn (And.intro hcl (And.intro n1 (And.intro a1 m1))))
    clear hgt hmem hcn hcl n1 a1 m1 m2 e0 e1 e2 hbW1 hzz hwt hW1 q0 q1 hib HIH HM HS1
    generalize holdsF s l (withF env binds t) g = pv at HIV HN
    simp only [ndV, FrmA.cells, SlA.val] at HIV
    refine wpIn_round_held (S := (fun w' : World => w'.cell? ⟨w.heap.size, 0, none⟩ = some (.slice x.slots.a s.slots.length x.slots.cap) /\ w'.cell? ⟨w.heap.size, 1, none⟩ = some (.slice x.rooms.a s.rooms.length x.rooms.cap) /\ w'.cell? ⟨w.heap.size, 2, none⟩ = some (.slice x.people.a s.people.length x.people.cap) /\ w'.cell? ⟨w.heap.size, 3, none⟩ = some (.slice x.groups.a s.groups.length x.groups.cap) /\ w'.cell? ⟨w.heap.size, 4, none⟩ = some (.slice x.lessons.a s.lessons.length x.lessons.cap) /\ w'.cell? ⟨w.heap.size, 5, none⟩ = some (.slice y.a l.length y.cap) /\ w'.cell? ⟨w.heap.size + 1, 0, none⟩ = some (.slice z.a env.length z.cap) /\ w'.cell? ⟨w.heap.size + 1 + 1, 4, none⟩ = some (.slice fa.b.a binds.length fa.b.cap) /\ w'.cell? ⟨w.heap.size + 1 + 1, 5, none⟩ = some (.slice (some ⟨fa.l.b, fa.l.o, none⟩) 1 fa.l.cap) /\ w'.cell? ⟨fa.l.b, fa.l.o, none⟩ = some (.int .i64 g.kind) /\ w'.cell? ⟨fa.l.b, fa.l.o + 1, none⟩ = some (.string ⟨g.name.toArray⟩) /\ w'.cell? ⟨fa.l.b, fa.l.o + 2, none⟩ = some (.int .i64 g.n) /\ w'.cell? ⟨fa.l.b, fa.l.o + 3, none⟩ = some (.slice y1.t.a g.terms.length y1.t.cap) /\ w'.cell? ⟨fa.l.b, fa.l.o + 4, none⟩ = some (.slice y1.b.a g.binds.length y1.b.cap) /\ w'.cell? ⟨fa.l.b, fa.l.o + 5, none⟩ = some (.slice y1.l.a g.l.length y1.l.cap))) (by kernel_rfl) (by kernel_rfl) (HKS.out _ (Below.refl _ _).drew) (fun hHeld => ?_)
    refine take_at (i := 0) (v := ?_) rfl (by kernel_rfl) (by kernel_rfl) (by kernel_rfl) plain_put (by rfl) ?_ hHeld ?_
    rotate_left
    · intro w hSw; (try dsimp only at hSw); go_simp; all_goals (with_reducible rfl)
    try simp only [Act.put, List.setIfInBounds_toArray, List.set_cons_zero, List.set_cons_succ]
    refine take_at (i := 1) (v := ?_) rfl (by kernel_rfl) (by kernel_rfl) (by kernel_rfl) plain_put (by rfl) ?_ hHeld ?_
    rotate_left
    · intro w hSw; (try dsimp only at hSw); go_simp; all_goals (with_reducible rfl)
    try simp only [Act.put, List.setIfInBounds_toArray, List.set_cons_zero, List.set_cons_succ]
    refine take_at (i := 2) (v := ?_) rfl (by kernel_rfl) (by kernel_rfl) (by kernel_rfl) plain_put (by rfl) ?_ hHeld ?_
    rotate_left
    · intro w hSw; (try dsimp only at hSw); go_simp; all_goals (with_reducible rfl)
    try simp only [Act.put, List.setIfInBounds_toArray, List.set_cons_zero, List.set_cons_succ]
    refine take_at (i := 3) (v := ?_) rfl (by kernel_rfl) (by kernel_rfl) (by kernel_rfl) plain_put (by rfl) ?_ hHeld ?_
    rotate_left
    · intro w hSw; (try dsimp only at hSw); go_simp; all_goals (with_reducible rfl)
    try simp only [Act.put, List.setIfInBounds_toArray, List.set_cons_zero, List.set_cons_succ]
    refine take_at (i := 4) (v := ?_) rfl (by kernel_rfl) (by kernel_rfl) (by kernel_rfl) plain_put (by rfl) ?_ hHeld ?_
    rotate_left
    · intro w hSw; (try dsimp only at hSw); go_simp; all_goals (with_reducible rfl)
    try simp only [Act.put, List.setIfInBounds_toArray, List.set_cons_zero, List.set_cons_succ]
    refine take_at (i := 6) (v := ?_) rfl (by kernel_rfl) (by kernel_rfl) (by kernel_rfl) plain_put (by rfl) ?_ hHeld ?_
    rotate_left
    · intro w hSw; (try dsimp only at hSw); go_simp; all_goals (with_reducible rfl)
    try simp only [Act.put, List.setIfInBounds_toArray, List.set_cons_zero, List.set_cons_succ]
    refine take_at (i := 7) (v := ?_) rfl (by kernel_rfl) (by kernel_rfl) (by kernel_rfl) plain_put (by rfl) ?_ hHeld ?_
    rotate_left
    · intro w hSw; (try dsimp only at hSw); go_simp; all_goals (with_reducible rfl)
    try simp only [Act.put, List.setIfInBounds_toArray, List.set_cons_zero, List.set_cons_succ]
    refine take_at (i := 8) (v := ?_) rfl (by kernel_rfl) (by kernel_rfl) (by kernel_rfl) plain_put (by rfl) ?_ hHeld ?_
    rotate_left
    · intro w hSw; (try dsimp only at hSw); go_simp; all_goals (with_reducible rfl)
    try simp only [Act.put, List.setIfInBounds_toArray, List.set_cons_zero, List.set_cons_succ]
    refine take_at (i := 9) (v := ?_) rfl (by kernel_rfl) (by kernel_rfl) (by kernel_rfl) plain_put (by rfl) ?_ hHeld ?_
    rotate_left
    · intro w hSw; (try dsimp only at hSw); go_simp; all_goals (with_reducible rfl)
    try simp only [Act.put, List.setIfInBounds_toArray, List.set_cons_zero, List.set_cons_succ]
    refine wpAnyH_ready (rs := [5]) (by kernel_rfl) (by simp) ?_
    refine cons_at rfl (fun K hK => ?_) AllReadyH.nil
    go_simp
    go_at_call 110
    refine (HWT.out).mono ?_
    rintro e w2 ⟨x0, rfl, hx0, hb2⟩
    have HB2 := Lib.hid (And.intro hx0 (Below.trans (Below.drew (Below.refl _ _)) hb2))
    clear hx0 hb2
    go_simp
    refine hK.out _ _ ?_ (fun hHeld2 => ?_)
    · exact HKS.out _ HB2.out.2
    clear hK K hHeld
    have hHeld := hHeld2
    clear hHeld2
    try simp only [Act.put, List.setIfInBounds_toArray, List.set_cons_zero, List.set_cons_succ]
    have HIW := Lib.hid (HIV.out x0 w2 HB2.out.2 HB2.out.1)
    refine wpAnyH_ready (rs := [10]) (by kernel_rfl) (by simp) ?_
    refine cons_at rfl (fun K hK => ?_) AllReadyH.nil
    go_simp
    go_at_call 56
    refine HIW.out.mono ?_
    rintro e w3 ⟨rfl, hb3⟩
    have HB3 := Lib.hid (HB2.out.2.trans (hb3.mono HB2.out.2.size))
    clear hb3
    go_simp
    refine hK.out _ _ ?_ (fun hHeld2 => ?_)
    · exact HKS.out _ HB3.out
    clear hK K hHeld
    have hHeld := hHeld2
    clear hHeld2
    try simp only [Act.put, List.setIfInBounds_toArray, List.set_cons_zero, List.set_cons_succ]
    refine wpAnyH_done (by kernel_rfl) ?_ _
    refine ⟨rfl, ?_⟩
    have n3 := (HB3.out.block _ (Array.getElem?_eq_some_iff.1 HN.out.2.2.1).1).trans HN.out.2.2.1
    have a3 := (HB3.out.block _ (Array.getElem?_eq_some_iff.1 HN.out.2.2.2.1).1).trans HN.out.2.2.2.1
    have m3 : Chalk.Mod (fun k => k = w.heap.size + 1 + 1 + 1 ∨ k = w.heap.size + 1 + 1 + 1 + 1) W w3 := HN.out.2.2.2.2.trans (Chalk.Mod.of_below (S := fun k => k = w.heap.size + 1 + 1 + 1 ∨ k = w.heap.size + 1 + 1 + 1 + 1) HB3.out) (fun _ _ h => h)
    have hcn := HN.out.1
    have hcl := HN.out.2.1
    generalize List.countP (fun t => holdsF s l (withF env binds t) g) (List.take i (tuplesF (sizesF s binds))) = cn at n3 hcn hcl
    have q2 : w3.cell? ⟨w.heap.size + 1 + 1 + 1, 0, none⟩ = some (.int .i64 cn) := cell_of_heap n3 rfl
    have q3 : w3.frozen? ⟨w.heap.size + 1 + 1 + 1, 0, none⟩ = false := frozen_of_heap n3
    have HE := Lib.hid (And.intro hcn (And.intro n3 (And.intro a3 m3)))
    clear n3 a3 m3 hcn hHeld
    cases pv
    · gi_wp2_with fail
      refine ⟨HE.out.2.2.2, ?_, HE.out.2.2.1⟩
      show w3.heap[w.heap.size + 1 + 1 + 1]? = _
      rw [HE.out.1, HE.out.2.1]; simp
    · gi_wp2_with fail
      refine ⟨HE.out.2.2.2.setCell (p := ⟨w.heap.size + 1 + 1 + 1, 0, none⟩) (fun _ => .inl rfl) _, ?_, ?_⟩
      · show (w3.setCell ⟨w.heap.size + 1 + 1 + 1, 0, none⟩ _).heap[w.heap.size + 1 + 1 + 1]? = _
        rw [HE.out.1, box_store _ HE.out.2.1]; rfl
      · exact heap_kept HE.out.2.2.1 ((Chalk.Mod.refl (fun k => k = w.heap.size + 1 + 1 + 1) _).setCell (p := ⟨w.heap.size + 1 + 1 + 1, 0, none⟩) (fun _ => rfl) _) (by omega)
  case stop => exact fun _ _ _ _ _ _ _ _ _ _ h _ => h.elim
  case done =>
    rintro D0 W hD0 hDlt hnD hm ⟨hn, ha⟩ hdd
    have f2 := heap_kept G.out.2.2.2.2.2.1 hm (by omega)
    have hbW : Below w.heap.size w W := G.out.2.2.1.trans (hm.below (by have := G.out.1; have := G.out.2.1; omega) (fun k hk => by omega))
    rw [List.take_length] at hn
    have HH := Lib.hid (And.intro hbW (And.intro hdd (by have := G.out.1; have := G.out.2.1; omega : w.heap.size <= D0)))
    obtain ⟨yes, hyes⟩ : ∃ yes, yes = (tuplesF (sizesF s binds)).countP (fun t => holdsF s l (withF env binds t) g) := ⟨_, rfl⟩
    obtain ⟨all, hall⟩ : ∃ all, all = (tuplesF (sizesF s binds)).length := ⟨_, rfl⟩
    have HRR : Hid (quantHolds kind n ((tuplesF (sizesF s binds)).countP (fun t => holdsF s l (withF env binds t) g)) (tuplesF (sizesF s binds)).length = quantHolds kind n yes all) := Lib.hid (by rw [hyes, hall])
    rw [<- hyes] at hn
    rw [<- hall] at ha
    clear hyes hall
    have r0 : W.cell? ⟨w.heap.size + 1 + 1 + 1, 0, none⟩ = some (.int .i64 yes) := cell_of_heap hn rfl
    have r1 : W.cell? ⟨w.heap.size + 1 + 1 + 1 + 1, 0, none⟩ = some (.int .i64 all) := cell_of_heap ha rfl
    have r2 : W.cell? ⟨w.heap.size + 1 + 1, 0, none⟩ = some (.int .i64 kind) := cell_of_heap f2 rfl
    have r3 : W.cell? ⟨w.heap.size + 1 + 1, 2, none⟩ = some (.int .i64 n) := cell_of_heap f2 rfl
    clear hn ha f2 hbW hm hdd hD0 hDlt hnD
    have hkk : kind = 14 ∨ kind = 15 ∨ kind = 16 ∨ kind = 17 := by have := HK.out; omega
    have fin : ∀ (v : Bool) (tm : Array Value) (hv : v = quantHolds kind n yes all), (∀ w, (results Tryz.f56 tm).run Tryz.prog w = .ok (.bool v) w) -> LeavesInM Fence.wide 0 Tryz.prog Tryz.f56 tm (fun e w' => e = .returned (.bool (quantHolds kind n ((tuplesF (sizesF s binds)).countP (fun t => holdsF s l (withF env binds t) g)) (tuplesF (sizesF s binds)).length)) /\ Below w.heap.size w w') [{ target := .collected D0, args := #[] }] .returning W := fun v tm hv hres => by
      subst hv
      rw [HRR.out]
      exact leaves_marks (v := .bool (quantHolds kind n yes all)) [D0] W hres (by simp) (fun d hd => by simp at hd; subst hd; exact HH.out.2.1) (fun W' hm' => ⟨rfl, HH.out.1.trans (hm'.below HH.out.1.size (fun k hk => by have := HH.out.2.2; simp at hk; omega))⟩)
    have FIN := Lib.hid fin
    clear fin
    rcases hkk with rfl | rfl | rfl | rfl
    · gi_wp2_with fail
      refine FIN.out ((yes : Int) == (all : Int)) _ ?_ (fun w => by simp [results, Tryz.results56, go_sem])
      unfold quantHolds
      rw [Bool.eq_iff_iff]
      simp
      try omega
    · gi_wp2_with fail
      refine FIN.out (decide ((0 : Int) < (yes : Int))) _ ?_ (fun w => by simp [results, Tryz.results56, go_sem])
      unfold quantHolds
      rw [Bool.eq_iff_iff]
      simp
      try omega
    · gi_wp2_with fail
      refine FIN.out (decide (n <= (yes : Int))) _ ?_ (fun w => by simp [results, Tryz.results56, go_sem])
      unfold quantHolds
      rw [Bool.eq_iff_iff]
      simp
      try omega
    · gi_wp2_with fail
      refine FIN.out (decide ((yes : Int) <= n)) _ ?_ (fun w => by simp [results, Tryz.results56, go_sem])
      unfold quantHolds
      rw [Bool.eq_iff_iff]
      simp
      try omega
end Go.Proofs.YtjjkfgjnadaheaaGreatDoor
/- eval.holds: whole. -/
namespace Go.Chalk
open Go.RowKit
theorem cmpWalk_zero {a : List Bnd} {name : Bs} {t u : Trm} (h : cmpWalk a name t u = 0) : (sortF a t).2 = 0 /\ (sortF a u).2 = 0 := by
  unfold cmpWalk at h
  by_cases h1 : (sortF a t).2 = 0
  · by_cases h2 : (sortF a u).2 = 0
    · exact ⟨h1, h2⟩
    · rw [if_neg (by simpa using h1), if_pos h2] at h; exact absurd h h2
  · rw [if_pos h1] at h; exact absurd h h1
theorem atomWalk_zero {a : List Bnd} {kind : Int} {t u : Trm} (h : atomWalk a kind t u = 0) : (sortF a t).2 = 0 /\ (sortF a t).1 = (asksF kind).1 /\ (sortF a u).2 = 0 := by
  unfold atomWalk at h
  by_cases h1 : (sortF a t).2 = 0
  · rw [if_neg (by simpa using h1)] at h
    by_cases h2 : (sortF a t).1 = (asksF kind).1
    · rw [if_neg (by simpa using h2)] at h
      by_cases h3 : (sortF a u).2 = 0
      · exact ⟨h1, h2, h3⟩
      · rw [if_pos h3] at h; exact absurd h h3
    · rw [if_pos h2] at h; cases h
  · rw [if_pos h1] at h; exact absurd h h1
theorem formed_atom_var {kind : Int} {name : Bs} {n : Int} {terms : List Trm} {binds : List Bnd} {l : List Frm} (h : formedF (.mk kind name n terms binds l) = true) (hk : 3 <= kind /\ kind <= 8) : ∀ x ∈ terms, x.kind = 2 := by
  rw [formedF_mk, Bool.and_eq_true] at h
  have h2 := h.2
  rw [if_neg (by omega), if_pos (by unfold atomK; simp; omega), Bool.and_eq_true] at h2
  intro x hx
  have := List.all_eq_true.1 h2.2 x hx
  simp only [Bool.and_eq_true, Bool.or_eq_true, decide_eq_true_eq] at this
  omega
theorem formed_binds {kind : Int} {name : Bs} {n : Int} {terms : List Trm} {binds : List Bnd} {l : List Frm} (h : formedF (.mk kind name n terms binds l) = true) (hk : 14 <= kind /\ kind <= 17) : binds.all bndOk = true /\ binds.length <= 6 := by
  rw [formedF_mk, Bool.and_eq_true] at h
  have h2 := h.2
  rw [if_neg (by omega), if_neg (by unfold atomK; simp; omega), if_pos (by unfold quantK; simp; omega)] at h2
  simp only [Bool.and_eq_true, decide_eq_true_eq] at h2
  exact ⟨h2.1.2, h2.1.1.2⟩
theorem withF_length (env : List Ev) (binds : List Bnd) (t : List Nat) : (withF env binds t).length <= env.length + binds.length := by
  unfold withF; simp; omega
theorem week_len {s : Schl} {l : List Plc} (h : weekCheck s l = 0) : l.length = s.lessons.length := by
  unfold weekCheck at h
  split at h
  · rename_i h1; exact absurd h h1
  · split at h
    · cases h
    · rename_i h2; exact Decidable.byContradiction (fun e => h2 (.inl e))
end Go.Chalk
namespace Go.Proofs.YtjjkfgjnadaheaaGreatDoor
open Go.RowKit Go.Chalk
theorem holds_any (s : Schl) (x : SchA) (l : List Plc) (y : SlA) (hI : ItoaAt) (hf : SchFit s) (hgs : ∀ q ∈ s.groups, 0 <= q.size /\ q.size <= 1000) (hsl : ∀ q ∈ s.slots, 0 <= q.day /\ q.day <= 6 /\ 0 <= q.hour /\ q.hour <= 11) :
    ∀ (N : Nat) (f : Frm) (fa : FrmA) (env : List Ev) (z : SlA) (w : World), f.size <= N -> HoldsOk s l env f -> env.length + 6 * f.depth <= 1900000 -> GG w -> SchIn w (· < w.heap.size) s x -> SlIn w (· < w.heap.size) (l.map Plc.toD) y -> SlIn w (· < w.heap.size) (env.map Ev.toD) z -> FrmIn w (· < w.heap.size) f fa ->
      Calls Tryz.prog 56 #[stV s x l y, .slice z.a env.length z.cap, ndV (f, fa)] w fun e w' => e = .returned (.bool (holdsF s l env f)) /\ Below w.heap.size w w'
  | 0, f, _, _, _, _, hN, _, _, _, _, _, _, _ => by cases f; rw [Frm.size] at hN; omega
  | N + 1, .mk kind name n terms binds fl, fa, env, z, w, hN, ho, hd, hg, hs, hy, hz, hx => by
    rw [Frm.size] at hN
    rw [Frm.depth] at hd
    have hfm : formedF (.mk kind name n terms binds fl) = true := by
      have h1 := ho.formed
      rw [nodesF, List.all_cons, Bool.and_eq_true] at h1
      exact h1.1
    obtain ⟨har, hat, hab⟩ := formed_len hfm
    have hk1 : 1 <= kind /\ kind <= 17 := by
      unfold arityF at har
      split at har
      · cases har
      · omega
    by_cases hka : 3 <= kind /\ kind <= 9
    · obtain ⟨t, u, rfl, htk⟩ := formed_atom2 hfm (by unfold atomK; simp; omega)
      have hw := ho.walk
      rw [walkF_two] at hw
      by_cases h9 : kind = 9
      · subst h9
        rw [if_pos rfl] at hw
        obtain ⟨w1, w2⟩ := cmpWalk_zero hw
        obtain ⟨hc, _⟩ := formed_cmp hfm
        refine holds_cmp s x l y env z name n t u binds fl fa w hg hx.terms hc (fun c hc W hW => ?_)
        have hcs : (sortF (evBinds env) c).2 = 0 := by
          simp only [List.mem_cons, List.not_mem_nil, or_false] at hc
          rcases hc with rfl | rfl
          · exact w1
          · exact w2
        have hck := htk c hc
        refine value_any s x l y env z c W (hs.later hW hW.size) hf hgs hsl (hz.later hW hW.size) (by omega) hck (fun h1 => (term_found ho.may h1 hcs).1) ⟨fun h => ?_, fun h => ?_⟩
        · obtain ⟨_, p1, p2, p3, p4⟩ := term_found ho.may (by omega) hcs
          refine ⟨p1, ?_⟩
          have hsrt : (evOf env c.name).sort = 2 := by
            rcases h with h | h | ⟨_, h⟩
            · rw [<- p4 (by omega), h]; rfl
            · rw [<- p4 (by omega), h]; rfl
            · exact h
          rw [hsrt, schCount_eq] at p2
          simpa using p2
        · obtain ⟨_, p1, p2, p3, p4⟩ := term_found ho.may (by omega) hcs
          refine ⟨p1, ?_⟩
          have hsrt : (evOf env c.name).sort = 3 := by
            rcases h with h | h
            · rw [<- p4 (by omega), h]; rfl
            · rw [<- p4 (by omega), h]; rfl
          rw [hsrt, schCount_eq] at p2
          simpa using p2
      · have hk8 : 3 <= kind /\ kind <= 8 := by omega
        rw [if_neg h9] at hw
        obtain ⟨w1, w2, w3⟩ := atomWalk_zero hw
        have hv2 := formed_atom_var hfm hk8
        have ht2 := hv2 t (by simp)
        have hu2 := hv2 u (by simp)
        obtain ⟨t1, t2, t3, t4, _⟩ := term_found ho.may (by omega : t.kind ≠ 1) w1
        obtain ⟨u1, _⟩ := term_found ho.may (by omega : u.kind ≠ 1) w3
        refine holds_atom s x l y env z kind name n t u binds fl fa w hk8 hg hx.terms hs hf hy (fun h => ⟨t2, ?_⟩) (fun c hc W hW => ?_)
        · have hsrt : (evOf env t.name).sort = 1 := by
            rw [<- t4 ht2, w2]
            rcases h with rfl | rfl <;> rfl
          rw [hsrt, schCount_eq] at t3
          rw [week_len ho.week]
          simpa using t3
        · refine element_any env z c W (hz.later hW hW.size) (by omega) ?_
          simp only [List.mem_cons, List.not_mem_nil, or_false] at hc
          rcases hc with rfl | rfl
          · exact t1
          · exact u1
    · have hnk : atomK kind = false := by unfold atomK; simp; omega
      obtain ⟨rfl, _⟩ := formed_plain hfm hnk
      by_cases h2 : kind <= 2
      · exact holds_const s x l y env z kind name n binds fl fa w (by omega)
      · by_cases h13 : kind <= 13
        · have hb0 : binds = [] := hab.resolve_right (by unfold quantK; simp; omega)
          subst hb0
          refine holds_conn s x l y env z kind name n fl fa w (by omega) hfm hx (fun j hj y1 W hW hy1 => ?_)
          have hmem : fl[j] ∈ fl := List.getElem_mem hj
          have hm := fsizes_mem fl fl[j] hmem
          exact holds_any s x l y hI hf hgs hsl N fl[j] y1 env z W (by omega) (ho.kid hmem) (by omega) (hg.below hW) (hs.later hW hW.size) (hy.later hW hW.size) (hz.later hW hW.size) (hy1.later hW hW.size)
        · obtain ⟨g, rfl⟩ : ∃ g, fl = [g] := by
            have h1 : fl.length = 1 := by
              unfold arityF at har
              rw [if_neg (by omega), if_neg (by omega), if_neg (by omega), if_neg (by omega)] at har
              simpa using har.symm
            exact List.length_eq_one_iff.1 h1
          obtain ⟨hbk, hb6⟩ := formed_binds hfm (by omega)
          obtain ⟨hmn, hin⟩ := ho.inst hbk
          have hm := fsizes_mem [g] g (by simp)
          refine holds_quant s x l y env z kind name n binds g fa w (by omega) hg hI hs hf.toSchSmall hx hz (by omega) (by rw [manyF_tuples hmn]; exact hmn) (fun t ht y1 z1 W hW hy1 hz1 => ?_)
          have hwl := withF_length env binds t
          exact holds_any s x l y hI hf hgs hsl N g y1 (withF env binds t) z1 W (by omega) (hin t ht) (by omega) (hg.below hW) (hs.later hW hW.size) (hy.later hW hW.size) hz1 (hy1.later hW hW.size)
end Go.Proofs.YtjjkfgjnadaheaaGreatDoor
/- eval.Holds. -/
namespace Go.Chalk
open Go.RowKit
theorem goTimes_all : ∀ (l : List Slt) (met : List (Int × Int)), goTimes met l = true -> ∀ q ∈ l, 0 <= q.day /\ q.day <= 6 /\ 0 <= q.hour /\ q.hour <= 11
  | x :: r, met, h, q, hq => by
    rw [goTimes] at h
    simp only [Bool.and_eq_true, withinB, decide_eq_true_eq] at h
    rcases List.mem_cons.1 hq with rfl | hq
    · omega
    · exact goTimes_all r _ h.2 q hq
theorem school_valid {s : Schl} (h : schCheck s = 0) : (∀ q ∈ s.groups, 0 <= q.size /\ q.size <= 1000) /\ (∀ q ∈ s.slots, 0 <= q.day /\ q.day <= 6 /\ 0 <= q.hour /\ q.hour <= 11) := by
  unfold schCheck at h
  split at h
  · cases h
  split at h
  · cases h
  rename_i h2
  split at h
  · cases h
  split at h
  · cases h
  rename_i h4
  simp only [Bool.or_eq_true, not_or, List.any_eq_true, not_exists, not_and] at h4
  refine ⟨fun q hq => ?_, goTimes_all s.slots [] (by simpa using h2)⟩
  have := h4.1.2 q hq
  unfold badGroup withinB at this
  simp at this
  exact this
theorem holds_ok {s : Schl} {l : List Plc} {env : List Ev} {f : Frm} (h1 : weekCheck s l = 0) (h2 : evMay s env = true) (h3 : typForm (evBinds env) f = 0) (h4 : broadF s f <= 1048576) : HoldsOk s l env f := by
  unfold typForm at h3
  rw [if_neg (by rw [evMay_mayA h2]; simp)] at h3
  by_cases hc : frmCheck f = 0
  · rw [if_neg (by simpa using hc)] at h3
    obtain ⟨c1, c2, c3⟩ := frmCheck_zero.1 hc
    exact ⟨h1, h2, c1, c2, c3, h3, h4⟩
  · rw [if_pos hc] at h3; exact absurd h3 hc
end Go.Chalk
namespace Go.Proofs.YtjjkfgjnadaheaaGreatDoor
open Go.RowKit Go.Chalk
set_option maxRecDepth 100000 in
set_option maxHeartbeats 4000000 in
theorem eholds_any (s : Schl) (x : SchA) (l : List Plc) (y : SlA) (env : List Ev) (z : SlA) (f : Frm) (fa : FrmA) (w : World) (hI : ItoaAt) (hf : SchFit s) (hff : FrmFit f) (hg : GG w) (hs : SchIn w (· < w.heap.size) s x) (hy : SlIn w (· < w.heap.size) (l.map Plc.toD) y) (hl : l.length <= 2000000)
    (hz : SlIn w (· < w.heap.size) (env.map Ev.toD) z) (hel : env.length <= 1500000) (hmax : ∀ e ∈ env, e.name.length <= 4000000) (hx : FrmIn w (· < w.heap.size) f fa) :
    Calls Tryz.prog 20 #[.agg (x.cells s).toArray, .agg #[.slice y.a l.length y.cap], .slice z.a env.length z.cap, ndV (f, fa)] w fun e w' => e = .returned (.tuple #[.bool (evHolds s l env f).1, .int .i64 (evHolds s l env f).2]) /\ Below w.heap.size w w' := by
  have HWC := Lib.hid (fun (W : World) (hW : Below w.heap.size w W) => wcheck_any s x l y W hI (hs.later hW hW.size) hf (hy.later hW hW.size) hl (hg.below hW))
  have HMY := Lib.hid (fun (W : World) (hW : Below w.heap.size w W) => emay_any s x env z W hI hf.toSchSmall (hs.later hW hW.size) (hz.later hW hW.size) hel hmax (hg.below hW))
  have HBN : Hid (∀ W, Below w.heap.size w W -> Calls Tryz.prog 54 #[.slice z.a env.length z.cap] W fun e w' => ∃ x0 : SlA, e = .returned (.slice x0.a env.length x0.cap) /\ SlIn w' (· < w'.heap.size) ((evBinds env).map Bnd.toD) x0 /\ Below W.heap.size W w') :=
    Lib.hid (fun W hW => (ebinds_any env z W (hz.later hW hW.size) (by omega)).mono (by
      rintro e w' ⟨v, rfl, hon, hb⟩
      obtain ⟨x0, rfl, hx0⟩ := hon.sl (by rw [widths_map Bnd.flatT, List.length_map])
      exact ⟨x0, by rw [List.length_map]; unfold evBinds; rw [List.length_map], hx0, hb⟩))
  have hbl : (evBinds env).length = env.length := by simp [evBinds]
  have HTF : Hid (∀ (W : World) (x0 : SlA), Below w.heap.size w W -> SlIn W (· < W.heap.size) ((evBinds env).map Bnd.toD) x0 -> Calls Tryz.prog 53 #[.slice x0.a env.length x0.cap, ndV (f, fa)] W fun e w' => e = .returned (.int .i64 (typForm (evBinds env) f)) /\ Below W.heap.size W w') :=
    Lib.hid (fun W x0 hW h0 => by
      have h := tform_any (evBinds env) x0 f fa W h0 (hx.later hW hW.size) (by omega) (fun b hb => by
        unfold evBinds at hb
        obtain ⟨e, he, rfl⟩ := List.mem_map.1 hb
        exact hmax e he) hff (hg.below hW)
      rwa [hbl] at h)
  have HBR := Lib.hid (fun (W : World) (hW : Below w.heap.size w W) => broad_any s x hI hf.toSchSmall f.size f fa W (Nat.le_refl _) hff.size (fun g hg => (hff.nodes g hg).2.1) (hs.later hW hW.size) (hx.later hW hW.size))
  have HHO := Lib.hid (fun (h1 : weekCheck s l = 0) (h2 : evMay s env = true) (h3 : typForm (evBinds env) f = 0) (h4 : broadF s f <= 1048576) (W : World) (hW : Below w.heap.size w W) =>
    holds_any s x l y hI hf (school_valid (week_school h1)).1 (school_valid (week_school h1)).2 f.size f fa env z W (Nat.le_refl _) (holds_ok h1 h2 h3 h4) (by have := (holds_ok h1 h2 h3 h4).depth; omega) (hg.below hW) (hs.later hW hW.size) (hy.later hW hW.size) (hz.later hW hW.size) (hx.later hW hW.size))
  have HR : Hid (evHolds s l env f = if weekCheck s l ≠ 0 then (false, weekCheck s l) else if evMay s env = false then (false, 1) else if typForm (evBinds env) f ≠ 0 then (false, typForm (evBinds env) f) else if 1048576 < broadF s f then (false, 2) else (holdsF s l env f, 0)) := Lib.hid rfl
  clear hbl hx hz hy hs hg hff hf hI hl hel hmax
  generalize evHolds s l env f = res at HR ⊢
  generalize weekCheck s l = wc at HWC HHO HR
  generalize evMay s env = my at HMY HHO HR
  generalize typForm (evBinds env) f = tf at HTF HHO HR
  generalize broadF s f = bf at HBR HHO HR
  generalize holdsF s l env f = hv at HHO HR
  generalize hE : evBinds env = eb at HBN HTF
  clear hE
  obtain ⟨kind, name, n, terms, binds, fl⟩ := f
  unfold stV at HHO
  simp only [ndV, FrmA.cells, SlA.val, SchA.cells, Frm.kind, Frm.name, Frm.n, Frm.terms, Frm.binds, Frm.l] at HWC HMY HTF HBR HHO ⊢
  have HB : Hid (Below w.heap.size w (((w.alloc (.cells #[.slice x.slots.a s.slots.length x.slots.cap, .slice x.rooms.a s.rooms.length x.rooms.cap, .slice x.people.a s.people.length x.people.cap, .slice x.groups.a s.groups.length x.groups.cap, .slice x.lessons.a s.lessons.length x.lessons.cap] 28)).alloc (.cells #[.slice y.a l.length y.cap] 50)).alloc (.cells #[.int .i64 kind, .string ⟨name.toArray⟩, .int .i64 n, .slice fa.t.a terms.length fa.t.cap, .slice fa.b.a binds.length fa.b.cap, .slice fa.l.a fl.length fa.l.cap] 34))) := Lib.hid ((((Below.refl _ _).alloc (Nat.le_refl _) _).alloc (by simp) _).alloc (by simp; omega) _)
  have HK : Hid (∀ W', Below (((w.alloc (.cells #[.slice x.slots.a s.slots.length x.slots.cap, .slice x.rooms.a s.rooms.length x.rooms.cap, .slice x.people.a s.people.length x.people.cap, .slice x.groups.a s.groups.length x.groups.cap, .slice x.lessons.a s.lessons.length x.lessons.cap] 28)).alloc (.cells #[.slice y.a l.length y.cap] 50)).alloc (.cells #[.int .i64 kind, .string ⟨name.toArray⟩, .int .i64 n, .slice fa.t.a terms.length fa.t.cap, .slice fa.b.a binds.length fa.b.cap, .slice fa.l.a fl.length fa.l.cap] 34)).heap.size (((w.alloc (.cells #[.slice x.slots.a s.slots.length x.slots.cap, .slice x.rooms.a s.rooms.length x.rooms.cap, .slice x.people.a s.people.length x.people.cap, .slice x.groups.a s.groups.length x.groups.cap, .slice x.lessons.a s.lessons.length x.lessons.cap] 28)).alloc (.cells #[.slice y.a l.length y.cap] 50)).alloc (.cells #[.int .i64 kind, .string ⟨name.toArray⟩, .int .i64 n, .slice fa.t.a terms.length fa.t.cap, .slice fa.b.a binds.length fa.b.cap, .slice fa.l.a fl.length fa.l.cap] 34)) W' -> (W'.cell? ⟨w.heap.size, 0, none⟩ = some (.slice x.slots.a s.slots.length x.slots.cap) /\ W'.cell? ⟨w.heap.size, 1, none⟩ = some (.slice x.rooms.a s.rooms.length x.rooms.cap) /\ W'.cell? ⟨w.heap.size, 2, none⟩ = some (.slice x.people.a s.people.length x.people.cap) /\ W'.cell? ⟨w.heap.size, 3, none⟩ = some (.slice x.groups.a s.groups.length x.groups.cap) /\ W'.cell? ⟨w.heap.size, 4, none⟩ = some (.slice x.lessons.a s.lessons.length x.lessons.cap) /\ W'.cell? ⟨w.heap.size + 1, 0, none⟩ = some (.slice y.a l.length y.cap)) /\ (W'.cell? ⟨w.heap.size + 1 + 1, 0, none⟩ = some (.int .i64 kind) /\ W'.cell? ⟨w.heap.size + 1 + 1, 1, none⟩ = some (.string ⟨name.toArray⟩) /\ W'.cell? ⟨w.heap.size + 1 + 1, 2, none⟩ = some (.int .i64 n) /\ W'.cell? ⟨w.heap.size + 1 + 1, 3, none⟩ = some (.slice fa.t.a terms.length fa.t.cap) /\ W'.cell? ⟨w.heap.size + 1 + 1, 4, none⟩ = some (.slice fa.b.a binds.length fa.b.cap) /\ W'.cell? ⟨w.heap.size + 1 + 1, 5, none⟩ = some (.slice fa.l.a fl.length fa.l.cap))) := Lib.hid (fun W' hW => by
    have g0 : (((w.alloc (.cells #[.slice x.slots.a s.slots.length x.slots.cap, .slice x.rooms.a s.rooms.length x.rooms.cap, .slice x.people.a s.people.length x.people.cap, .slice x.groups.a s.groups.length x.groups.cap, .slice x.lessons.a s.lessons.length x.lessons.cap] 28)).alloc (.cells #[.slice y.a l.length y.cap] 50)).alloc (.cells #[.int .i64 kind, .string ⟨name.toArray⟩, .int .i64 n, .slice fa.t.a terms.length fa.t.cap, .slice fa.b.a binds.length fa.b.cap, .slice fa.l.a fl.length fa.l.cap] 34)).heap[w.heap.size]? = some (.cells #[.slice x.slots.a s.slots.length x.slots.cap, .slice x.rooms.a s.rooms.length x.rooms.cap, .slice x.people.a s.people.length x.people.cap, .slice x.groups.a s.groups.length x.groups.cap, .slice x.lessons.a s.lessons.length x.lessons.cap] 28 (0, 0)) := by simp only [heap_get, World.size_alloc]; rw [if_neg (by omega), if_neg (by omega), if_pos trivial]
    have g1 : (((w.alloc (.cells #[.slice x.slots.a s.slots.length x.slots.cap, .slice x.rooms.a s.rooms.length x.rooms.cap, .slice x.people.a s.people.length x.people.cap, .slice x.groups.a s.groups.length x.groups.cap, .slice x.lessons.a s.lessons.length x.lessons.cap] 28)).alloc (.cells #[.slice y.a l.length y.cap] 50)).alloc (.cells #[.int .i64 kind, .string ⟨name.toArray⟩, .int .i64 n, .slice fa.t.a terms.length fa.t.cap, .slice fa.b.a binds.length fa.b.cap, .slice fa.l.a fl.length fa.l.cap] 34)).heap[w.heap.size + 1]? = some (.cells #[.slice y.a l.length y.cap] 50 (0, 0)) := by simp only [heap_get, World.size_alloc]; rw [if_neg (by omega), if_pos trivial]
    have g2 : (((w.alloc (.cells #[.slice x.slots.a s.slots.length x.slots.cap, .slice x.rooms.a s.rooms.length x.rooms.cap, .slice x.people.a s.people.length x.people.cap, .slice x.groups.a s.groups.length x.groups.cap, .slice x.lessons.a s.lessons.length x.lessons.cap] 28)).alloc (.cells #[.slice y.a l.length y.cap] 50)).alloc (.cells #[.int .i64 kind, .string ⟨name.toArray⟩, .int .i64 n, .slice fa.t.a terms.length fa.t.cap, .slice fa.b.a binds.length fa.b.cap, .slice fa.l.a fl.length fa.l.cap] 34)).heap[w.heap.size + 1 + 1]? = some (.cells #[.int .i64 kind, .string ⟨name.toArray⟩, .int .i64 n, .slice fa.t.a terms.length fa.t.cap, .slice fa.b.a binds.length fa.b.cap, .slice fa.l.a fl.length fa.l.cap] 34 (0, 0)) := by simp only [heap_get, World.size_alloc]; rw [if_pos trivial]
    have c0 := (hW.block _ (Array.getElem?_eq_some_iff.1 g0).1).trans g0
    have c1 := (hW.block _ (Array.getElem?_eq_some_iff.1 g1).1).trans g1
    have c2 := (hW.block _ (Array.getElem?_eq_some_iff.1 g2).1).trans g2
    exact ⟨⟨cell_of_heap c0 rfl, cell_of_heap c0 rfl, cell_of_heap c0 rfl, cell_of_heap c0 rfl, cell_of_heap c0 rfl, cell_of_heap c1 rfl⟩, cell_of_heap c2 rfl, cell_of_heap c2 rfl, cell_of_heap c2 rfl, cell_of_heap c2 rfl, cell_of_heap c2 rfl, cell_of_heap c2 rfl⟩)
  go_enter Tryz.func20, Tryz.ntmps20
  go_wp2_with fail
  refine (HWC.out _ HB.out).mono ?_
  rintro e w1 ⟨rfl, hb1⟩
  have HC1 := Lib.hid (And.intro hb1 (HB.out.trans (hb1.mono HB.out.size)))
  clear hb1
  by_cases h1 : wc ≠ 0
  · have d1 : (wc != 0) = true := by simpa using h1
    have HD := Lib.hid h1
    clear h1
    go_wp2_with fail
    go_ret2
    exact ⟨by rw [HR.out]; simp [HD.out], HC1.out.2⟩
  obtain rfl : wc = 0 := by omega
  clear h1
  obtain ⟨⟨a0, a1, a2, a3, a4, a5⟩, _⟩ := HK.out w1 HC1.out.1
  go_wp2_with fail
  refine (HMY.out _ HC1.out.2).mono ?_
  rintro e w2 ⟨rfl, hb2⟩
  have HC2 := Lib.hid (And.intro (HC1.out.1.trans (hb2.mono HC1.out.1.size)) (HC1.out.2.trans (hb2.mono HC1.out.2.size)))
  clear hb2 a0 a1 a2 a3 a4 a5
  cases my
  · go_wp2_with fail
    go_ret2
    exact ⟨by rw [HR.out]; simp, HC2.out.2⟩
  go_wp2_with fail
  go_region_held3 (fun w' => w'.cell? ⟨w.heap.size + 1 + 1, 0, none⟩ = some (.int .i64 kind) /\ w'.cell? ⟨w.heap.size + 1 + 1, 1, none⟩ = some (.string ⟨name.toArray⟩) /\ w'.cell? ⟨w.heap.size + 1 + 1, 2, none⟩ = some (.int .i64 n) /\ w'.cell? ⟨w.heap.size + 1 + 1, 3, none⟩ = some (.slice fa.t.a terms.length fa.t.cap) /\ w'.cell? ⟨w.heap.size + 1 + 1, 4, none⟩ = some (.slice fa.b.a binds.length fa.b.cap) /\ w'.cell? ⟨w.heap.size + 1 + 1, 5, none⟩ = some (.slice fa.l.a fl.length fa.l.cap)) ((refine (HK.out _ ?_).2; first | exact HC4.out.1 | exact HC3.out.1 | exact HC2.out.1.drew | fail)) (first
    | (go_at_call 53; refine (HTF.out _ x0 HC3.out.2.1 HC3.out.2.2).mono ?_; rintro e w4 ⟨rfl, hbb⟩; have HC4 := Lib.hid (And.intro (HC3.out.1.trans (hbb.mono HC3.out.1.size)) (HC3.out.2.1.trans (hbb.mono HC3.out.2.1.size))); clear hbb)
    | (go_at_call 54; refine (HBN.out _ HC2.out.2.drew).mono ?_; rintro e w3 ⟨x0, rfl, hx0, hbb⟩; have HC3 := Lib.hid (And.intro (HC2.out.1.drew.trans (hbb.mono HC2.out.1.drew.size)) (And.intro (HC2.out.2.drew.trans (hbb.mono HC2.out.2.drew.size)) hx0)); clear hbb hx0))
  all_goals
    by_cases h1 : tf ≠ 0
    · have d1 : (tf != 0) = true := by simpa using h1
      have HD := Lib.hid h1
      clear h1
      go_wp2_with fail
      go_ret2
      exact ⟨by rw [HR.out]; simp [HD.out], HC4.out.2⟩
    obtain rfl : tf = 0 := by omega
    clear h1
    obtain ⟨⟨a0, a1, a2, a3, a4, a5⟩, b0, b1, b2, b3, b4, b5⟩ := HK.out w4 HC4.out.1
    go_wp2_with fail
    refine (HBR.out _ HC4.out.2).mono ?_
    rintro e w5 ⟨rfl, hb5⟩
    have HC5 := Lib.hid (And.intro (HC4.out.1.trans (hb5.mono HC4.out.1.size)) (HC4.out.2.trans (hb5.mono HC4.out.2.size)))
    clear hb5 a0 a1 a2 a3 a4 a5 b0 b1 b2 b3 b4 b5
    by_cases h1 : (1048576 : Int) < (bf : Int)
    · have HD := Lib.hid (by omega : 1048576 < bf)
      go_wp2_with fail
      go_ret2
      exact ⟨by rw [HR.out]; simp [HD.out], HC5.out.2⟩
    have h1' : decide ((1048576 : Int) < (bf : Int)) = false := by simpa using h1
    have HD := Lib.hid (by omega : ¬ 1048576 < bf)
    have HHW := Lib.hid (HHO.out (by first | rfl | trivial) (by first | rfl | trivial) (by first | rfl | trivial) (by omega) w5 HC5.out.2)
    clear h1
    obtain ⟨⟨a0, a1, a2, a3, a4, a5⟩, b0, b1, b2, b3, b4, b5⟩ := HK.out w5 HC5.out.1
    go_wp2_with fail
    refine HHW.out.mono ?_
    rintro e w6 ⟨rfl, hb6⟩
    have HC6 := Lib.hid (HC5.out.2.trans (hb6.mono HC5.out.2.size))
    clear hb6
    go_wp2_with fail
    go_ret2
    exact ⟨by rw [HR.out]; simp [HD.out], HC6.out⟩
end Go.Proofs.YtjjkfgjnadaheaaGreatDoor
