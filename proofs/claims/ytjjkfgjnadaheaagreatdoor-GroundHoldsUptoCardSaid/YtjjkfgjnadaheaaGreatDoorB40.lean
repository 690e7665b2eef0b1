/- Joined texts: EvJ, EvK, EvL, EvM, EvN. -/
import Derived.Test.YtjjkfgjnadaheaaGreatDoorB39
import Derived.Test.YtjjkfgjnadaheaaGreatDoorB09
import Derived.Deep.RegionHeld3

/- eval.value. -/
namespace Go.Chalk
open Go.RowKit
theorem value_one {s : Schl} {env : List Ev} {name : Bs} {n : Int} : valueF s env ⟨1, name, n⟩ = n := by unfold valueF; rw [if_pos rfl]
end Go.Chalk
namespace Go.Proofs.YtjjkfgjnadaheaaGreatDoor
open Go.RowKit Go.Chalk
structure ValOk (s : Schl) (kind : Int) (ev : Ev) : Prop where
  slot : kind = 3 ∨ kind = 4 ∨ (kind = 2 /\ ev.sort = 2) -> 0 <= ev.at_ /\ ev.at_ < (s.slots.length : Int)
  room : kind = 5 ∨ kind = 6 -> 0 <= ev.at_ /\ ev.at_ < (s.rooms.length : Int)

set_option maxRecDepth 100000 in
set_option maxHeartbeats 4000000 in
theorem value_any (s : Schl) (x : SchA) (l : List Plc) (y : SlA) (env : List Ev) (z : SlA) (t : Trm) (w : World) (hs : SchIn w (· < w.heap.size) s x) (hf : SchFit s) (hgs : ∀ q ∈ s.groups, 0 <= q.size /\ q.size <= 1000) (hsl : ∀ q ∈ s.slots, 0 <= q.day /\ q.day <= 6 /\ 0 <= q.hour /\ q.hour <= 11)
    (hz : SlIn w (· < w.heap.size) (env.map Ev.toD) z) (hl : env.length <= 2000000) (hk : 1 <= t.kind /\ t.kind <= 7) (hfi : t.kind ≠ 1 -> (env.findIdx? (fun x => x.name == t.name)).isSome = true) (hv : ValOk s t.kind (evOf env t.name)) :
    Calls Tryz.prog 107 #[stV s x l y, .slice z.a env.length z.cap, .agg #[.int .i64 t.kind, .string ⟨t.name.toArray⟩, .int .i64 t.n]] w fun e w' => e = .returned (.int .i64 (valueF s env t)) /\ Below w.heap.size w w' := by
  obtain ⟨kind, name, n⟩ := t
  simp only at hk hfi hv ⊢
  have hba : Below w.heap.size w ((w.alloc (.cells #[.slice x.slots.a s.slots.length x.slots.cap, .slice x.rooms.a s.rooms.length x.rooms.cap, .slice x.people.a s.people.length x.people.cap, .slice x.groups.a s.groups.length x.groups.cap, .slice x.lessons.a s.lessons.length x.lessons.cap, .slice y.a l.length y.cap] 105)).alloc (.cells #[.int .i64 kind, .string ⟨name.toArray⟩, .int .i64 n] 147)) := ((Below.refl _ _).alloc (Nat.le_refl _) _).alloc (by simp) _
  unfold stV
  by_cases h1 : kind = 1
  · subst h1
    rw [value_one]
    have HB := Lib.hid hba
    clear hs hz hfi hv hba
    go_enter Tryz.func107, Tryz.ntmps107
    go_wp2_with fail
    go_ret
    exact ⟨rfl, HB.out⟩
  obtain ⟨i, hi⟩ := Option.isSome_iff_exists.1 (hfi h1)
  obtain ⟨hil, he, hfn⟩ := evOf_at hi
  rw [he] at hv
  have hst : ((w.alloc (.cells #[.slice x.slots.a s.slots.length x.slots.cap, .slice x.rooms.a s.rooms.length x.rooms.cap, .slice x.people.a s.people.length x.people.cap, .slice x.groups.a s.groups.length x.groups.cap, .slice x.lessons.a s.lessons.length x.lessons.cap, .slice y.a l.length y.cap] 105)).alloc (.cells #[.int .i64 kind, .string ⟨name.toArray⟩, .int .i64 n] 147)).heap[w.heap.size]? = some (.cells #[.slice x.slots.a s.slots.length x.slots.cap, .slice x.rooms.a s.rooms.length x.rooms.cap, .slice x.people.a s.people.length x.people.cap, .slice x.groups.a s.groups.length x.groups.cap, .slice x.lessons.a s.lessons.length x.lessons.cap, .slice y.a l.length y.cap] 105 (0, 0)) := by rw [heap_get, if_neg (by simp), heap_get, if_pos rfl]
  have htb : ((w.alloc (.cells #[.slice x.slots.a s.slots.length x.slots.cap, .slice x.rooms.a s.rooms.length x.rooms.cap, .slice x.people.a s.people.length x.people.cap, .slice x.groups.a s.groups.length x.groups.cap, .slice x.lessons.a s.lessons.length x.lessons.cap, .slice y.a l.length y.cap] 105)).alloc (.cells #[.int .i64 kind, .string ⟨name.toArray⟩, .int .i64 n] 147)).heap[w.heap.size + 1]? = some (.cells #[.int .i64 kind, .string ⟨name.toArray⟩, .int .i64 n] 147 (0, 0)) := by rw [heap_get, if_pos (by simp)]
  have hcl := find_env 178 val1_any (fun _ _ => enters_of Tryz.func178 (by kernel_rfl) rfl _ _) env z name (w.heap.size + 1) _ (hz.later hba hba.size) hl (cell_of_heap htb rfl)
  rw [hfn] at hcl
  obtain ⟨g1, _, _, g4, _⟩ := hz.flat Ev.flatT
  have hev := g4.three i hil rfl
  obtain ⟨hza, hzb⟩ := g1 (by omega)
  have HEV := Lib.hid (fun (W : World) (hb : Below w.heap.size w W) => (⟨(hb.cell (p := ⟨z.b, z.o + i * 3, none⟩) hzb).trans hev.1, (hb.cell (p := ⟨z.b, z.o + i * 3 + 1, none⟩) hzb).trans hev.2.1, (hb.cell (p := ⟨z.b, z.o + i * 3 + 2, none⟩) hzb).trans hev.2.2⟩ : W.cell? ⟨z.b, z.o + i * 3, none⟩ = _ /\ W.cell? ⟨z.b, z.o + i * 3 + 1, none⟩ = _ /\ W.cell? ⟨z.b, z.o + i * 3 + 2, none⟩ = _))
  have HSC := Lib.hid (fun (W : World) (hW : Below w.heap.size w W) => size_any s x (env[i]).at_ W (hs.later hW hW.size) hf hgs)
  have HSL : Hid (∀ (m : Nat) (hm : m < s.slots.length) (W : World), Below w.heap.size w W -> x.slots.a = some ⟨x.slots.b, x.slots.o, none⟩ /\ W.cell? ⟨x.slots.b, x.slots.o + m * 3, none⟩ = some (.string ⟨s.slots[m].name.toArray⟩) /\ W.cell? ⟨x.slots.b, x.slots.o + m * 3 + 1, none⟩ = some (.int .i64 s.slots[m].day) /\ W.cell? ⟨x.slots.b, x.slots.o + m * 3 + 2, none⟩ = some (.int .i64 s.slots[m].hour)) := Lib.hid (fun m hm W hW => by
    obtain ⟨k1, _, _, k4, _⟩ := hs.slots.flat Slt.flatT
    obtain ⟨ka, kb⟩ := k1 (by omega)
    have h := k4.three m hm rfl
    exact ⟨ka, (hW.cell (p := ⟨x.slots.b, x.slots.o + m * 3, none⟩) kb).trans h.1, (hW.cell (p := ⟨x.slots.b, x.slots.o + m * 3 + 1, none⟩) kb).trans h.2.1, (hW.cell (p := ⟨x.slots.b, x.slots.o + m * 3 + 2, none⟩) kb).trans h.2.2⟩)
  have HRM : Hid (∀ (m : Nat) (hm : m < s.rooms.length) (W : World), Below w.heap.size w W -> x.rooms.a = some ⟨x.rooms.b, x.rooms.o, none⟩ /\ W.cell? ⟨x.rooms.b, x.rooms.o + m * 4 + 1, none⟩ = some (.int .i64 s.rooms[m].house) /\ W.cell? ⟨x.rooms.b, x.rooms.o + m * 4 + 2, none⟩ = some (.int .i64 s.rooms[m].seats)) := Lib.hid (fun m hm W hW => by
    obtain ⟨y1, _, _, _, _, hc⟩ := hs.rooms.rom m hm
    obtain ⟨ka, kb⟩ := hs.rooms.at_ (by rw [List.length_map]; omega)
    obtain ⟨_, c1, c2, _⟩ := hc.four
    exact ⟨ka, (hW.cell (p := ⟨x.rooms.b, x.rooms.o + m * 4 + 1, none⟩) kb).trans c1, (hW.cell (p := ⟨x.rooms.b, x.rooms.o + m * 4 + 2, none⟩) kb).trans c2⟩)
  have hie : (i : Int) < (env.length : Int) := by omega
  have HVF : Hid (valueF s env ⟨kind, name, n⟩ = if kind = 3 then (sltAt s (env[i]).at_).day
      else if kind = 4 then (sltAt s (env[i]).at_).hour
      else if kind = 5 then (romAt s (env[i]).at_).house
      else if kind = 6 then (romAt s (env[i]).at_).seats
      else if kind = 7 then schSize s (env[i]).at_
      else if (env[i]).sort = 2 then (sltAt s (env[i]).at_).day * 12 + (sltAt s (env[i]).at_).hour
      else (env[i]).at_) := Lib.hid (by unfold valueF; rw [if_neg h1, he])
  have HDY := Lib.hid (fun (m : Nat) (hm : m < s.slots.length) => hsl _ (List.getElem_mem hm))
  have HV := Lib.hid hv
  have HB := Lib.hid (And.intro hba (And.intro hst htb))
  rw [hza] at hcl ⊢
  have HCL := Lib.hid hcl
  have hmf : ∀ (fn : Fn) (first cap : Array Value) (w : World), (Instr.makeFunc fn first cap).run Tryz.prog w = .ok (.func fn first cap) w := fun _ _ _ _ => rfl
  clear hs hz hfi hv hba hst htb hcl g1 g4 hev hza hzb hsl hgs hf he hfn hi
  generalize valueF s env ⟨kind, name, n⟩ = res at HVF ⊢
  generalize env[i] = ev at *
  clear hil hl
  obtain ⟨en, es, ea⟩ := ev
  simp only at HEV HSC HVF HV
  have hkk : kind = 2 ∨ kind = 3 ∨ kind = 4 ∨ kind = 5 ∨ kind = 6 ∨ kind = 7 := by omega
  clear h1 hk
  rcases hkk with rfl | rfl | rfl | rfl | rfl | rfl
  · -- kind 2
    by_cases hs2 : es = 2
    · subst hs2
      obtain ⟨v1, v2⟩ : 0 <= ea /\ ea < (s.slots.length : Int) := HV.out.slot (by simp)
      obtain ⟨m, rfl⟩ : ∃ m : Nat, ea = (m : Int) := ⟨ea.toNat, by omega⟩
      have hm : m < s.slots.length := by omega
      have HRR : Hid (res = s.slots[m].day * 12 + s.slots[m].hour) := Lib.hid (by rw [HVF.out]; simp [sltAt, hm])
      obtain ⟨d1, d2, d3, d4⟩ := HDY.out m hm
      go_enter Tryz.func107, Tryz.ntmps107
      go_wp2_with fail
      refine HCL.out.mono ?_
      rintro e w1 ⟨rfl, hb⟩
      have hb1 := HB.out.1.trans (hb.mono HB.out.1.size)
      obtain ⟨e0, e1, e2⟩ := HEV.out w1 hb1
      have hst1 := (hb.block w.heap.size (Array.getElem?_eq_some_iff.1 HB.out.2.1).1).trans HB.out.2.1
      have htb1 := (hb.block (w.heap.size + 1) (Array.getElem?_eq_some_iff.1 HB.out.2.2).1).trans HB.out.2.2
      have t0 := cell_alloc (x := .cells #[.string ⟨en.toArray⟩, .int .i64 2, .int .i64 (m : Int)] 76) (cell_of_heap (i := 0) htb1 rfl)
      have HB1 := Lib.hid (hb1.alloc hb1.size (.cells #[.string ⟨en.toArray⟩, .int .i64 2, .int .i64 (m : Int)] 76))
      obtain ⟨ka, k0, k1, k2⟩ := HSL.out m hm w1 hb1
      have s0 := cell_alloc (x := .cells #[.string ⟨en.toArray⟩, .int .i64 2, .int .i64 (m : Int)] 76) (cell_of_heap (i := 0) hst1 rfl)
      rw [ka] at s0
      have k0' := cell_alloc (x := .cells #[.string ⟨en.toArray⟩, .int .i64 2, .int .i64 (m : Int)] 76) k0
      have k1' := cell_alloc (x := .cells #[.string ⟨en.toArray⟩, .int .i64 2, .int .i64 (m : Int)] 76) k1
      have k2' := cell_alloc (x := .cells #[.string ⟨en.toArray⟩, .int .i64 2, .int .i64 (m : Int)] 76) k2
      have HB2 := Lib.hid (HB1.out.alloc HB1.out.size (.cells #[.string ⟨s.slots[m].name.toArray⟩, .int .i64 s.slots[m].day, .int .i64 s.slots[m].hour] 114))
      clear hb hb1 hst1 htb1 ka k0 k1 k2
      generalize s.slots[m] = q at *
      obtain ⟨qn, qd, qh⟩ := q
      simp only at *
      go_wp2_with fail
      go_ret
      exact ⟨by rw [HRR.out]; first | rfl | go_num, HB2.out⟩
    · have hs2' : (es == 2) = false := by simpa using hs2
      have HRR : Hid (res = ea) := Lib.hid (by rw [HVF.out]; simp [hs2])
      clear hs2
      go_enter Tryz.func107, Tryz.ntmps107
      go_wp2_with fail
      refine HCL.out.mono ?_
      rintro e w1 ⟨rfl, hb⟩
      have hb1 := HB.out.1.trans (hb.mono HB.out.1.size)
      obtain ⟨e0, e1, e2⟩ := HEV.out w1 hb1
      have hst1 := (hb.block w.heap.size (Array.getElem?_eq_some_iff.1 HB.out.2.1).1).trans HB.out.2.1
      have htb1 := (hb.block (w.heap.size + 1) (Array.getElem?_eq_some_iff.1 HB.out.2.2).1).trans HB.out.2.2
      have t0 := cell_alloc (x := .cells #[.string ⟨en.toArray⟩, .int .i64 es, .int .i64 ea] 76) (cell_of_heap (i := 0) htb1 rfl)
      have HB1 := Lib.hid (hb1.alloc hb1.size (.cells #[.string ⟨en.toArray⟩, .int .i64 es, .int .i64 ea] 76))
      clear hb hb1 hst1 htb1
      go_wp2_with fail
      go_ret
      exact ⟨ret_int HRR.out.symm, HB1.out⟩
  · -- kind 3
    obtain ⟨v1, v2⟩ : 0 <= ea /\ ea < (s.slots.length : Int) := HV.out.slot (by simp)
    obtain ⟨m, rfl⟩ : ∃ m : Nat, ea = (m : Int) := ⟨ea.toNat, by omega⟩
    have hm : m < s.slots.length := by omega
    have HRR : Hid (res = s.slots[m].day) := Lib.hid (by rw [HVF.out]; simp [sltAt, hm])
    go_enter Tryz.func107, Tryz.ntmps107
    go_wp2_with fail
    refine HCL.out.mono ?_
    rintro e w1 ⟨rfl, hb⟩
    have hb1 := HB.out.1.trans (hb.mono HB.out.1.size)
    obtain ⟨e0, e1, e2⟩ := HEV.out w1 hb1
    have hst1 := (hb.block w.heap.size (Array.getElem?_eq_some_iff.1 HB.out.2.1).1).trans HB.out.2.1
    have htb1 := (hb.block (w.heap.size + 1) (Array.getElem?_eq_some_iff.1 HB.out.2.2).1).trans HB.out.2.2
    have t0 := cell_alloc (x := .cells #[.string ⟨en.toArray⟩, .int .i64 es, .int .i64 (m : Int)] 76) (cell_of_heap (i := 0) htb1 rfl)
    have HB1 := Lib.hid (hb1.alloc hb1.size (.cells #[.string ⟨en.toArray⟩, .int .i64 es, .int .i64 (m : Int)] 76))
    obtain ⟨ka, k0, k1, k2⟩ := HSL.out m hm w1 hb1
    have s0 := cell_alloc (x := .cells #[.string ⟨en.toArray⟩, .int .i64 es, .int .i64 (m : Int)] 76) (cell_of_heap (i := 0) hst1 rfl)
    rw [ka] at s0
    have k1' := cell_alloc (x := .cells #[.string ⟨en.toArray⟩, .int .i64 es, .int .i64 (m : Int)] 76) k1
    clear hb hb1 hst1 htb1 ka k0 k1 k2
    generalize s.slots[m].day = dv at *
    go_wp2_with fail
    go_ret
    exact ⟨ret_int HRR.out.symm, HB1.out⟩
  · -- kind 4
    obtain ⟨v1, v2⟩ : 0 <= ea /\ ea < (s.slots.length : Int) := HV.out.slot (by simp)
    obtain ⟨m, rfl⟩ : ∃ m : Nat, ea = (m : Int) := ⟨ea.toNat, by omega⟩
    have hm : m < s.slots.length := by omega
    have HRR : Hid (res = s.slots[m].hour) := Lib.hid (by rw [HVF.out]; simp [sltAt, hm])
    go_enter Tryz.func107, Tryz.ntmps107
    go_wp2_with fail
    refine HCL.out.mono ?_
    rintro e w1 ⟨rfl, hb⟩
    have hb1 := HB.out.1.trans (hb.mono HB.out.1.size)
    obtain ⟨e0, e1, e2⟩ := HEV.out w1 hb1
    have hst1 := (hb.block w.heap.size (Array.getElem?_eq_some_iff.1 HB.out.2.1).1).trans HB.out.2.1
    have htb1 := (hb.block (w.heap.size + 1) (Array.getElem?_eq_some_iff.1 HB.out.2.2).1).trans HB.out.2.2
    have t0 := cell_alloc (x := .cells #[.string ⟨en.toArray⟩, .int .i64 es, .int .i64 (m : Int)] 76) (cell_of_heap (i := 0) htb1 rfl)
    have HB1 := Lib.hid (hb1.alloc hb1.size (.cells #[.string ⟨en.toArray⟩, .int .i64 es, .int .i64 (m : Int)] 76))
    obtain ⟨ka, k0, k1, k2⟩ := HSL.out m hm w1 hb1
    have s0 := cell_alloc (x := .cells #[.string ⟨en.toArray⟩, .int .i64 es, .int .i64 (m : Int)] 76) (cell_of_heap (i := 0) hst1 rfl)
    rw [ka] at s0
    have k2' := cell_alloc (x := .cells #[.string ⟨en.toArray⟩, .int .i64 es, .int .i64 (m : Int)] 76) k2
    clear hb hb1 hst1 htb1 ka k0 k1 k2
    generalize s.slots[m].hour = dv at *
    go_wp2_with fail
    go_ret
    exact ⟨ret_int HRR.out.symm, HB1.out⟩
  · -- kind 5
    obtain ⟨v1, v2⟩ : 0 <= ea /\ ea < (s.rooms.length : Int) := HV.out.room (by simp)
    obtain ⟨m, rfl⟩ : ∃ m : Nat, ea = (m : Int) := ⟨ea.toNat, by omega⟩
    have hm : m < s.rooms.length := by omega
    have HRR : Hid (res = s.rooms[m].house) := Lib.hid (by rw [HVF.out]; simp [romAt, hm])
    go_enter Tryz.func107, Tryz.ntmps107
    go_wp2_with fail
    refine HCL.out.mono ?_
    rintro e w1 ⟨rfl, hb⟩
    have hb1 := HB.out.1.trans (hb.mono HB.out.1.size)
    obtain ⟨e0, e1, e2⟩ := HEV.out w1 hb1
    have hst1 := (hb.block w.heap.size (Array.getElem?_eq_some_iff.1 HB.out.2.1).1).trans HB.out.2.1
    have htb1 := (hb.block (w.heap.size + 1) (Array.getElem?_eq_some_iff.1 HB.out.2.2).1).trans HB.out.2.2
    have t0 := cell_alloc (x := .cells #[.string ⟨en.toArray⟩, .int .i64 es, .int .i64 (m : Int)] 76) (cell_of_heap (i := 0) htb1 rfl)
    have HB1 := Lib.hid (hb1.alloc hb1.size (.cells #[.string ⟨en.toArray⟩, .int .i64 es, .int .i64 (m : Int)] 76))
    obtain ⟨ka, k1, k2⟩ := HRM.out m hm w1 hb1
    have s0 := cell_alloc (x := .cells #[.string ⟨en.toArray⟩, .int .i64 es, .int .i64 (m : Int)] 76) (cell_of_heap (i := 1) hst1 rfl)
    rw [ka] at s0
    have k1' := cell_alloc (x := .cells #[.string ⟨en.toArray⟩, .int .i64 es, .int .i64 (m : Int)] 76) k1
    clear hb hb1 hst1 htb1 ka k1 k2
    generalize s.rooms[m].house = dv at *
    go_wp2_with fail
    go_ret
    exact ⟨ret_int HRR.out.symm, HB1.out⟩
  · -- kind 6
    obtain ⟨v1, v2⟩ : 0 <= ea /\ ea < (s.rooms.length : Int) := HV.out.room (by simp)
    obtain ⟨m, rfl⟩ : ∃ m : Nat, ea = (m : Int) := ⟨ea.toNat, by omega⟩
    have hm : m < s.rooms.length := by omega
    have HRR : Hid (res = s.rooms[m].seats) := Lib.hid (by rw [HVF.out]; simp [romAt, hm])
    go_enter Tryz.func107, Tryz.ntmps107
    go_wp2_with fail
    refine HCL.out.mono ?_
    rintro e w1 ⟨rfl, hb⟩
    have hb1 := HB.out.1.trans (hb.mono HB.out.1.size)
    obtain ⟨e0, e1, e2⟩ := HEV.out w1 hb1
    have hst1 := (hb.block w.heap.size (Array.getElem?_eq_some_iff.1 HB.out.2.1).1).trans HB.out.2.1
    have htb1 := (hb.block (w.heap.size + 1) (Array.getElem?_eq_some_iff.1 HB.out.2.2).1).trans HB.out.2.2
    have t0 := cell_alloc (x := .cells #[.string ⟨en.toArray⟩, .int .i64 es, .int .i64 (m : Int)] 76) (cell_of_heap (i := 0) htb1 rfl)
    have HB1 := Lib.hid (hb1.alloc hb1.size (.cells #[.string ⟨en.toArray⟩, .int .i64 es, .int .i64 (m : Int)] 76))
    obtain ⟨ka, k1, k2⟩ := HRM.out m hm w1 hb1
    have s0 := cell_alloc (x := .cells #[.string ⟨en.toArray⟩, .int .i64 es, .int .i64 (m : Int)] 76) (cell_of_heap (i := 1) hst1 rfl)
    rw [ka] at s0
    have k2' := cell_alloc (x := .cells #[.string ⟨en.toArray⟩, .int .i64 es, .int .i64 (m : Int)] 76) k2
    clear hb hb1 hst1 htb1 ka k1 k2
    generalize s.rooms[m].seats = dv at *
    go_wp2_with fail
    go_ret
    exact ⟨ret_int HRR.out.symm, HB1.out⟩
  · -- kind 7
    have HRR : Hid (res = schSize s ea) := Lib.hid (by rw [HVF.out]; simp)
    generalize schSize s ea = sz at HSC HRR
    go_enter Tryz.func107, Tryz.ntmps107
    go_wp2_with fail
    refine HCL.out.mono ?_
    rintro e w1 ⟨rfl, hb⟩
    have hb1 := HB.out.1.trans (hb.mono HB.out.1.size)
    obtain ⟨e0, e1, e2⟩ := HEV.out w1 hb1
    have hst1 := (hb.block w.heap.size (Array.getElem?_eq_some_iff.1 HB.out.2.1).1).trans HB.out.2.1
    have htb1 := (hb.block (w.heap.size + 1) (Array.getElem?_eq_some_iff.1 HB.out.2.2).1).trans HB.out.2.2
    have t0 := cell_alloc (x := .cells #[.string ⟨en.toArray⟩, .int .i64 es, .int .i64 ea] 76) (cell_of_heap (i := 0) htb1 rfl)
    have HB1 := Lib.hid (hb1.alloc hb1.size (.cells #[.string ⟨en.toArray⟩, .int .i64 es, .int .i64 ea] 76))
    have s0 := cell_alloc (x := .cells #[.string ⟨en.toArray⟩, .int .i64 es, .int .i64 ea] 76) (cell_of_heap (i := 0) hst1 rfl)
    have s1 := cell_alloc (x := .cells #[.string ⟨en.toArray⟩, .int .i64 es, .int .i64 ea] 76) (cell_of_heap (i := 1) hst1 rfl)
    have s2 := cell_alloc (x := .cells #[.string ⟨en.toArray⟩, .int .i64 es, .int .i64 ea] 76) (cell_of_heap (i := 2) hst1 rfl)
    have s3 := cell_alloc (x := .cells #[.string ⟨en.toArray⟩, .int .i64 es, .int .i64 ea] 76) (cell_of_heap (i := 3) hst1 rfl)
    have s4 := cell_alloc (x := .cells #[.string ⟨en.toArray⟩, .int .i64 es, .int .i64 ea] 76) (cell_of_heap (i := 4) hst1 rfl)
    have HSW := Lib.hid (HSC.out _ HB1.out)
    simp only [SchA.cells, SlA.val] at HSW
    clear hb hb1 hst1 htb1
    go_wp2_with fail
    refine HSW.out.mono ?_
    rintro e w2 ⟨rfl, hb2⟩
    have HB2 := Lib.hid (HB1.out.trans (hb2.mono HB1.out.size))
    clear hb2
    go_wp2_with fail
    go_ret
    exact ⟨ret_int HRR.out.symm, HB2.out⟩
end Go.Proofs.YtjjkfgjnadaheaaGreatDoor
/- eval.holds: the parts. -/
namespace Go.Proofs.YtjjkfgjnadaheaaGreatDoor
open Go.RowKit Go.Chalk
structure HdBox (W : World) (ps : Nat) (s : Schl) (x : SchA) (l : List Plc) (y : SlA) (env : List Ev) (z : SlA) (f : Frm) (fa : FrmA) : Prop where
  st : W.heap[ps]? = some (.cells #[.slice x.slots.a s.slots.length x.slots.cap, .slice x.rooms.a s.rooms.length x.rooms.cap, .slice x.people.a s.people.length x.people.cap, .slice x.groups.a s.groups.length x.groups.cap, .slice x.lessons.a s.lessons.length x.lessons.cap, .slice y.a l.length y.cap] 105 (0, 0))
  env : W.heap[ps + 1]? = some (.cells #[.slice z.a env.length z.cap] 29 (0, 0))
  frm : W.heap[ps + 1 + 1]? = some (.cells (fa.cells f).toArray 34 (0, 0))
theorem HdBox.below {W W' : World} {ps : Nat} {s : Schl} {x : SchA} {l : List Plc} {y : SlA} {env : List Ev} {z : SlA} {f : Frm} {fa : FrmA} (h : HdBox W ps s x l y env z f fa) (hb : Below W.heap.size W W') : HdBox W' ps s x l y env z f fa :=
  ⟨(hb.block _ (Array.getElem?_eq_some_iff.1 h.st).1).trans h.st, (hb.block _ (Array.getElem?_eq_some_iff.1 h.env).1).trans h.env, (hb.block _ (Array.getElem?_eq_some_iff.1 h.frm).1).trans h.frm⟩

set_option maxRecDepth 100000 in
set_option maxHeartbeats 4000000 in
theorem holds1_any (s : Schl) (x : SchA) (l : List Plc) (y : SlA) (env : List Ev) (z : SlA) (kind : Int) (name : Bs) (n : Int) (terms : List Trm) (binds : List Bnd) (fl : List Frm) (fa : FrmA) (i : Nat) (hi : i < fl.length) (W : World) (ps : Nat)
    (hB : HdBox W ps s x l y env z (.mk kind name n terms binds fl) fa) (y1 : FrmA) (hc : CellsAt W fa.l.b (fa.l.o + i * 6) (y1.cells fl[i])) (hla : fa.l.a = some ⟨fa.l.b, fa.l.o, none⟩) (v : Bool)
    (hcall : ∀ W', Below W.heap.size W W' -> Calls Tryz.prog 56 #[stV s x l y, .slice z.a env.length z.cap, ndV (fl[i], y1)] W' fun e w' => e = .returned (.bool v) /\ Below W'.heap.size W' w') :
    Calls Tryz.prog 105 #[.int .i64 i, .pointer (some ⟨ps, 0, none⟩), .pointer (some ⟨ps + 1, 0, none⟩), .pointer (some ⟨ps + 1 + 1, 0, none⟩)] W fun e w' => e = .returned (.bool v) /\ Below W.heap.size W w' := by
  have hst := hB.st
  have hen := hB.env
  have hfr := hB.frm
  simp only [FrmA.cells, SlA.val, Frm.kind, Frm.name, Frm.n, Frm.terms, Frm.binds, Frm.l] at hfr
  have s0 : W.cell? ⟨ps, 0, none⟩ = _ := cell_of_heap hst rfl
  have s1 : W.cell? ⟨ps, 1, none⟩ = _ := cell_of_heap hst rfl
  have s2 : W.cell? ⟨ps, 2, none⟩ = _ := cell_of_heap hst rfl
  have s3 : W.cell? ⟨ps, 3, none⟩ = _ := cell_of_heap hst rfl
  have s4 : W.cell? ⟨ps, 4, none⟩ = _ := cell_of_heap hst rfl
  have s5 : W.cell? ⟨ps, 5, none⟩ = _ := cell_of_heap hst rfl
  have v0 : W.cell? ⟨ps + 1, 0, none⟩ = _ := cell_of_heap hen rfl
  have f5 : W.cell? ⟨ps + 1 + 1, 5, none⟩ = some (.slice fa.l.a fl.length fa.l.cap) := cell_of_heap hfr rfl
  rw [hla] at f5
  obtain ⟨e0, e1, e2, e3, e4, e5⟩ := hc.six
  have HCL := Lib.hid (hcall W.drew (Below.refl _ _).drew)
  have hil : (i : Int) < (fl.length : Int) := by omega
  clear hst hen hfr hc hcall hB
  generalize fl[i] = fe at *
  obtain ⟨kind1, name1, n1, terms1, binds1, fl1⟩ := fe
  unfold stV at HCL
  simp only [ndV, FrmA.cells, SlA.val, Frm.kind, Frm.name, Frm.n, Frm.terms, Frm.binds, Frm.l] at HCL e0 e1 e2 e3 e4 e5
  generalize fl.length = fln at *
  go_enter Tryz.func105, Tryz.ntmps105
  go_wp2_with fail
  go_region_with (go_at_call 56; refine HCL.out.mono ?_; rintro e w' ⟨rfl, hb⟩; have HW := Lib.hid hb; clear hb)
  all_goals
    go_wp2_with fail
    go_ret
    exact ⟨rfl, ((Below.refl _ _).drew).trans HW.out⟩
end Go.Proofs.YtjjkfgjnadaheaaGreatDoor
/- eval.holds: constants and connectives. -/
namespace Go.Chalk
open Go.RowKit
theorem formed_len {kind : Int} {name : Bs} {n : Int} {terms : List Trm} {binds : List Bnd} {l : List Frm} (h : formedF (.mk kind name n terms binds l) = true) : arityF kind = some l.length /\ (terms = [] ∨ atomK kind = true) /\ (binds = [] ∨ quantK kind = true) := by
  rw [formedF_mk, Bool.and_eq_true, partsOk_mk] at h
  have h1 := h.1
  simp only [Bool.and_eq_true, Bool.or_eq_true, beq_iff_eq, List.isEmpty_iff] at h1
  exact ⟨h1.1.1.1.1, h1.1.1.1.2, h1.1.1.2⟩
end Go.Chalk
namespace Go.Proofs.YtjjkfgjnadaheaaGreatDoor
open Go.RowKit Go.Chalk
abbrev hdW (w : World) (s : Schl) (x : SchA) (l : List Plc) (y : SlA) (env : List Ev) (z : SlA) (f : Frm) (fa : FrmA) : World :=
  ((w.alloc (.cells #[.slice x.slots.a s.slots.length x.slots.cap, .slice x.rooms.a s.rooms.length x.rooms.cap, .slice x.people.a s.people.length x.people.cap, .slice x.groups.a s.groups.length x.groups.cap, .slice x.lessons.a s.lessons.length x.lessons.cap, .slice y.a l.length y.cap] 105)).alloc (.cells #[.slice z.a env.length z.cap] 29)).alloc (.cells (fa.cells f).toArray 34)
theorem hdW_box (w : World) (s : Schl) (x : SchA) (l : List Plc) (y : SlA) (env : List Ev) (z : SlA) (f : Frm) (fa : FrmA) : HdBox (hdW w s x l y env z f fa) w.heap.size s x l y env z f fa :=
  ⟨by rw [heap_get, if_neg (by simp; omega), heap_get, if_neg (by simp), heap_get, if_pos rfl], by rw [heap_get, if_neg (by simp), heap_get, if_pos (by simp)], by rw [heap_get, if_pos (by simp)]⟩
theorem hdW_below (w : World) (s : Schl) (x : SchA) (l : List Plc) (y : SlA) (env : List Ev) (z : SlA) (f : Frm) (fa : FrmA) : Below w.heap.size w (hdW w s x l y env z f fa) :=
  (((Below.refl _ _).alloc (Nat.le_refl _) _).alloc (by simp) _).alloc (by simp; omega) _

set_option maxRecDepth 100000 in
set_option maxHeartbeats 1000000 in
theorem holds_const (s : Schl) (x : SchA) (l : List Plc) (y : SlA) (env : List Ev) (z : SlA) (kind : Int) (name : Bs) (n : Int) (binds : List Bnd) (fl : List Frm) (fa : FrmA) (w : World) (hk : kind = 1 ∨ kind = 2) :
    Calls Tryz.prog 56 #[stV s x l y, .slice z.a env.length z.cap, ndV (.mk kind name n [] binds fl, fa)] w fun e w' => e = .returned (.bool (holdsF s l env (.mk kind name n [] binds fl))) /\ Below w.heap.size w w' := by
  have hb := hdW_below w s x l y env z (.mk kind name n [] binds fl) fa
  have hr : holdsF s l env (.mk kind name n [] binds fl) = (kind == 1) := by
    rw [holdsF_nil]
    rcases hk with rfl | rfl
    · rfl
    · rfl
  have hmf : ∀ (fn : Fn) (first cap : Array Value) (w : World), (Instr.makeFunc fn first cap).run Tryz.prog w = .ok (.func fn first cap) w := fun _ _ _ _ => rfl
  rw [hr]
  have HB := Lib.hid hb
  clear hb hr
  unfold stV
  simp only [hdW, ndV, FrmA.cells, SlA.val, Frm.kind, Frm.name, Frm.n, Frm.terms, Frm.binds, Frm.l] at HB ⊢
  rcases hk with rfl | rfl
  · go_enter Tryz.func56, Tryz.ntmps56
    go_wp2_with fail
    go_ret
    exact ⟨rfl, HB.out⟩
  · go_enter Tryz.func56, Tryz.ntmps56
    go_wp2_with fail
    go_ret
    exact ⟨rfl, HB.out⟩

set_option maxRecDepth 100000 in
set_option maxHeartbeats 2000000 in
theorem holds_conn (s : Schl) (x : SchA) (l : List Plc) (y : SlA) (env : List Ev) (z : SlA) (kind : Int) (name : Bs) (n : Int) (fl : List Frm) (fa : FrmA) (w : World) (hk : 10 <= kind /\ kind <= 13) (hf : formedF (.mk kind name n [] [] fl) = true) (hx : FrmIn w (· < w.heap.size) (.mk kind name n [] [] fl) fa)
    (ih : ∀ (j : Nat) (hj : j < fl.length) (y1 : FrmA) (W : World), Below w.heap.size w W -> FrmIn w (· < w.heap.size) fl[j] y1 -> Calls Tryz.prog 56 #[stV s x l y, .slice z.a env.length z.cap, ndV (fl[j], y1)] W fun e w' => e = .returned (.bool (holdsF s l env fl[j])) /\ Below W.heap.size W w') :
    Calls Tryz.prog 56 #[stV s x l y, .slice z.a env.length z.cap, ndV (.mk kind name n [] [] fl, fa)] w fun e w' => e = .returned (.bool (holdsF s l env (.mk kind name n [] [] fl))) /\ Below w.heap.size w w' := by
  have hb := hdW_below w s x l y env z (.mk kind name n [] [] fl) fa
  have hbx := hdW_box w s x l y env z (.mk kind name n [] [] fl) fa
  have hpt : ∀ (j : Nat) (hj : j < fl.length) (W : World), Below w.heap.size w W -> HdBox W w.heap.size s x l y env z (.mk kind name n [] [] fl) fa -> Calls Tryz.prog 105 #[.int .i64 j, .pointer (some ⟨w.heap.size, 0, none⟩), .pointer (some ⟨w.heap.size + 1, 0, none⟩), .pointer (some ⟨w.heap.size + 1 + 1, 0, none⟩)] W fun e w' => e = .returned (.bool (holdsF s l env fl[j])) /\ Below W.heap.size W w' := by
    intro j hj W hW hB
    obtain ⟨y1, h1, h2⟩ := hx.l.frm j hj
    obtain ⟨hla, hlb⟩ := hx.l.at_ (by rw [List.length_map]; exact Nat.lt_of_le_of_lt (Nat.zero_le _) hj)
    exact holds1_any s x l y env z kind name n [] [] fl fa j hj W w.heap.size hB y1 (h2.agree (agree_of_below hW) hlb) hla _ (fun W' hW' => ih j hj y1 W' (hW.trans (hW'.mono hW.size)) h1)
  obtain ⟨har, _, _⟩ := formed_len hf
  have hmf : ∀ (fn : Fn) (first cap : Array Value) (w : World), (Instr.makeFunc fn first cap).run Tryz.prog w = .ok (.func fn first cap) w := fun _ _ _ _ => rfl
  have hkk : kind = 10 ∨ kind = 11 ∨ kind = 12 ∨ kind = 13 := by omega
  clear hx ih hk hf
  unfold stV at hpt ⊢
  rcases hkk with rfl | rfl | rfl | rfl
  · obtain ⟨g, rfl⟩ : ∃ g, fl = [g] := by
      have h1 : fl.length = 1 := by simpa [arityF] using har.symm
      exact List.length_eq_one_iff.1 h1
    · have HB := Lib.hid (And.intro hb hbx)
      have hr : holdsF s l env (.mk 10 name n [] [] [g]) = !(holdsF s l env g) := by rw [holdsF_nil, if_neg (by decide), if_neg (by decide), if_pos rfl, holdsAt]
      rw [hr]
      have h0 : Calls Tryz.prog 105 #[.int .i64 0, .pointer (some ⟨w.heap.size, 0, none⟩), .pointer (some ⟨w.heap.size + 1, 0, none⟩), .pointer (some ⟨w.heap.size + 1 + 1, 0, none⟩)] (hdW w s x l y env z (.mk 10 name n [] [] [g]) fa) fun e w' => e = .returned (.bool (holdsF s l env g)) /\ Below (hdW w s x l y env z (.mk 10 name n [] [] [g]) fa).heap.size (hdW w s x l y env z (.mk 10 name n [] [] [g]) fa) w' := hpt 0 (Nat.zero_lt_one) _ hb hbx
      generalize holdsF s l env g = v at h0 ⊢
      clear hpt hb hbx hr
      have HC := Lib.hid h0
      simp only [hdW, ndV, FrmA.cells, SlA.val, Frm.kind, Frm.name, Frm.n, Frm.terms, Frm.binds, Frm.l] at HB HC ⊢
      clear h0
      go_enter Tryz.func56, Tryz.ntmps56
      go_wp2_with fail
      refine HC.out.mono ?_
      rintro e w1 ⟨rfl, hb1⟩
      have HB1 := Lib.hid (HB.out.1.trans (hb1.mono HB.out.1.size))
      clear hb1
      go_wp2_with fail
      go_ret
      exact ⟨rfl, HB1.out⟩
  · obtain ⟨g, h, rfl⟩ : ∃ g h, fl = [g, h] := by
      have h1 : fl.length = 2 := by simpa [arityF] using har.symm
      match fl, h1 with
      | [g, h], _ => exact ⟨g, h, rfl⟩
    · have HB := Lib.hid (And.intro hb hbx)
      have hr : holdsF s l env (.mk 11 name n [] [] [g, h]) = (holdsF s l env g && holdsF s l env h) := by rw [holdsF_nil, if_neg (by decide), if_neg (by decide), if_neg (by decide), if_pos rfl, holdsAt, holdsAt, holdsAt]
      rw [hr]
      have h0 : Calls Tryz.prog 105 #[.int .i64 0, .pointer (some ⟨w.heap.size, 0, none⟩), .pointer (some ⟨w.heap.size + 1, 0, none⟩), .pointer (some ⟨w.heap.size + 1 + 1, 0, none⟩)] (hdW w s x l y env z (.mk 11 name n [] [] [g, h]) fa) fun e w' => e = .returned (.bool (holdsF s l env g)) /\ Below (hdW w s x l y env z (.mk 11 name n [] [] [g, h]) fa).heap.size (hdW w s x l y env z (.mk 11 name n [] [] [g, h]) fa) w' := hpt 0 (by show 0 < 2; decide) _ hb hbx
      have h1 : ∀ W, Below w.heap.size w W -> HdBox W w.heap.size s x l y env z (.mk 11 name n [] [] [g, h]) fa -> Calls Tryz.prog 105 #[.int .i64 1, .pointer (some ⟨w.heap.size, 0, none⟩), .pointer (some ⟨w.heap.size + 1, 0, none⟩), .pointer (some ⟨w.heap.size + 1 + 1, 0, none⟩)] W fun e w' => e = .returned (.bool (holdsF s l env h)) /\ Below W.heap.size W w' := hpt 1 (by show 1 < 2; decide)
      generalize holdsF s l env g = v0 at h0 ⊢
      generalize holdsF s l env h = v1 at h1 ⊢
      clear hpt hb hbx hr
      have HC := Lib.hid h0
      have HC2 := Lib.hid h1
      clear h0 h1
      simp only [hdW, ndV, FrmA.cells, SlA.val, Frm.kind, Frm.name, Frm.n, Frm.terms, Frm.binds, Frm.l] at HB HC ⊢
      go_enter Tryz.func56, Tryz.ntmps56
      go_wp2_with fail
      refine HC.out.mono ?_
      rintro e w1 ⟨rfl, hb1⟩
      have HB1 := Lib.hid (And.intro (HB.out.1.trans (hb1.mono HB.out.1.size)) (HB.out.2.below hb1))
      clear hb1
      cases v0
      · go_wp2_with fail
        go_ret
        exact ⟨by simp, HB1.out.1⟩
      · have HCW := Lib.hid (HC2.out w1 HB1.out.1 HB1.out.2)
        go_wp2_with fail
        refine HCW.out.mono ?_
        rintro e w2 ⟨rfl, hb2⟩
        have HB2 := Lib.hid (HB1.out.1.trans (hb2.mono HB1.out.1.size))
        clear hb2
        go_wp2_with fail
        go_ret
        exact ⟨by simp, HB2.out⟩
  · obtain ⟨g, h, rfl⟩ : ∃ g h, fl = [g, h] := by
      have h1 : fl.length = 2 := by simpa [arityF] using har.symm
      match fl, h1 with
      | [g, h], _ => exact ⟨g, h, rfl⟩
    · have HB := Lib.hid (And.intro hb hbx)
      have hr : holdsF s l env (.mk 12 name n [] [] [g, h]) = (holdsF s l env g || holdsF s l env h) := by rw [holdsF_nil, if_neg (by decide), if_neg (by decide), if_neg (by decide), if_neg (by decide), if_pos rfl, holdsAt, holdsAt, holdsAt]
      rw [hr]
      have h0 : Calls Tryz.prog 105 #[.int .i64 0, .pointer (some ⟨w.heap.size, 0, none⟩), .pointer (some ⟨w.heap.size + 1, 0, none⟩), .pointer (some ⟨w.heap.size + 1 + 1, 0, none⟩)] (hdW w s x l y env z (.mk 12 name n [] [] [g, h]) fa) fun e w' => e = .returned (.bool (holdsF s l env g)) /\ Below (hdW w s x l y env z (.mk 12 name n [] [] [g, h]) fa).heap.size (hdW w s x l y env z (.mk 12 name n [] [] [g, h]) fa) w' := hpt 0 (by show 0 < 2; decide) _ hb hbx
      have h1 : ∀ W, Below w.heap.size w W -> HdBox W w.heap.size s x l y env z (.mk 12 name n [] [] [g, h]) fa -> Calls Tryz.prog 105 #[.int .i64 1, .pointer (some ⟨w.heap.size, 0, none⟩), .pointer (some ⟨w.heap.size + 1, 0, none⟩), .pointer (some ⟨w.heap.size + 1 + 1, 0, none⟩)] W fun e w' => e = .returned (.bool (holdsF s l env h)) /\ Below W.heap.size W w' := hpt 1 (by show 1 < 2; decide)
      generalize holdsF s l env g = v0 at h0 ⊢
      generalize holdsF s l env h = v1 at h1 ⊢
      clear hpt hb hbx hr
      have HC := Lib.hid h0
      have HC2 := Lib.hid h1
      clear h0 h1
      simp only [hdW, ndV, FrmA.cells, SlA.val, Frm.kind, Frm.name, Frm.n, Frm.terms, Frm.binds, Frm.l] at HB HC ⊢
      go_enter Tryz.func56, Tryz.ntmps56
      go_wp2_with fail
      refine HC.out.mono ?_
      rintro e w1 ⟨rfl, hb1⟩
      have HB1 := Lib.hid (And.intro (HB.out.1.trans (hb1.mono HB.out.1.size)) (HB.out.2.below hb1))
      clear hb1
      cases v0
      · have HCW := Lib.hid (HC2.out w1 HB1.out.1 HB1.out.2)
        go_wp2_with fail
        refine HCW.out.mono ?_
        rintro e w2 ⟨rfl, hb2⟩
        have HB2 := Lib.hid (HB1.out.1.trans (hb2.mono HB1.out.1.size))
        clear hb2
        go_wp2_with fail
        go_ret
        exact ⟨by simp, HB2.out⟩
      · go_wp2_with fail
        go_ret
        exact ⟨by simp, HB1.out.1⟩
  · obtain ⟨g, h, rfl⟩ : ∃ g h, fl = [g, h] := by
      have h1 : fl.length = 2 := by simpa [arityF] using har.symm
      match fl, h1 with
      | [g, h], _ => exact ⟨g, h, rfl⟩
    · have HB := Lib.hid (And.intro hb hbx)
      have hr : holdsF s l env (.mk 13 name n [] [] [g, h]) = (!(holdsF s l env g) || holdsF s l env h) := by rw [holdsF_nil, if_neg (by decide), if_neg (by decide), if_neg (by decide), if_neg (by decide), if_neg (by decide), if_pos rfl, holdsAt, holdsAt, holdsAt]
      rw [hr]
      have h0 : Calls Tryz.prog 105 #[.int .i64 0, .pointer (some ⟨w.heap.size, 0, none⟩), .pointer (some ⟨w.heap.size + 1, 0, none⟩), .pointer (some ⟨w.heap.size + 1 + 1, 0, none⟩)] (hdW w s x l y env z (.mk 13 name n [] [] [g, h]) fa) fun e w' => e = .returned (.bool (holdsF s l env g)) /\ Below (hdW w s x l y env z (.mk 13 name n [] [] [g, h]) fa).heap.size (hdW w s x l y env z (.mk 13 name n [] [] [g, h]) fa) w' := hpt 0 (by show 0 < 2; decide) _ hb hbx
      have h1 : ∀ W, Below w.heap.size w W -> HdBox W w.heap.size s x l y env z (.mk 13 name n [] [] [g, h]) fa -> Calls Tryz.prog 105 #[.int .i64 1, .pointer (some ⟨w.heap.size, 0, none⟩), .pointer (some ⟨w.heap.size + 1, 0, none⟩), .pointer (some ⟨w.heap.size + 1 + 1, 0, none⟩)] W fun e w' => e = .returned (.bool (holdsF s l env h)) /\ Below W.heap.size W w' := hpt 1 (by show 1 < 2; decide)
      generalize holdsF s l env g = v0 at h0 ⊢
      generalize holdsF s l env h = v1 at h1 ⊢
      clear hpt hb hbx hr
      have HC := Lib.hid h0
      have HC2 := Lib.hid h1
      clear h0 h1
      simp only [hdW, ndV, FrmA.cells, SlA.val, Frm.kind, Frm.name, Frm.n, Frm.terms, Frm.binds, Frm.l] at HB HC ⊢
      go_enter Tryz.func56, Tryz.ntmps56
      go_wp2_with fail
      refine HC.out.mono ?_
      rintro e w1 ⟨rfl, hb1⟩
      have HB1 := Lib.hid (And.intro (HB.out.1.trans (hb1.mono HB.out.1.size)) (HB.out.2.below hb1))
      clear hb1
      cases v0
      · go_wp2_with fail
        go_ret
        exact ⟨by simp, HB1.out.1⟩
      · have HCW := Lib.hid (HC2.out w1 HB1.out.1 HB1.out.2)
        go_wp2_with fail
        refine HCW.out.mono ?_
        rintro e w2 ⟨rfl, hb2⟩
        have HB2 := Lib.hid (HB1.out.1.trans (hb2.mono HB1.out.1.size))
        clear hb2
        go_wp2_with fail
        go_ret
        exact ⟨by simp, HB2.out⟩
end Go.Proofs.YtjjkfgjnadaheaaGreatDoor
/- eval.holds: comparisons. -/
namespace Go.Proofs.YtjjkfgjnadaheaaGreatDoor
open Go.RowKit Go.Chalk
set_option maxRecDepth 100000 in
set_option maxHeartbeats 4000000 in
theorem holds_cmp (s : Schl) (x : SchA) (l : List Plc) (y : SlA) (env : List Ev) (z : SlA) (name : Bs) (n : Int) (t u : Trm) (binds : List Bnd) (fl : List Frm) (fa : FrmA) (w : World) (hg : GG w) (hx : SlIn w (· < w.heap.size) ([t, u].map Trm.toD) fa.t) (hc : cmpL.contains name = true)
    (hv : ∀ c ∈ [t, u], ∀ W, Below w.heap.size w W -> Calls Tryz.prog 107 #[stV s x l y, .slice z.a env.length z.cap, .agg #[.int .i64 c.kind, .string ⟨c.name.toArray⟩, .int .i64 c.n]] W fun e w' => e = .returned (.int .i64 (valueF s env c)) /\ Below W.heap.size W w') :
    Calls Tryz.prog 56 #[stV s x l y, .slice z.a env.length z.cap, ndV (.mk 9 name n [t, u] binds fl, fa)] w fun e w' => e = .returned (.bool (holdsF s l env (.mk 9 name n [t, u] binds fl))) /\ Below w.heap.size w w' := by
  have hb := hdW_below w s x l y env z (.mk 9 name n [t, u] binds fl) fa
  obtain ⟨hb1, hb2, hb3⟩ := hdW_box w s x l y env z (.mk 9 name n [t, u] binds fl) fa
  have hr : holdsF s l env (.mk 9 name n [t, u] binds fl) = cmpHolds name (valueF s env t) (valueF s env u) := by rw [holdsF_two, if_neg (by decide), if_neg (by decide), if_pos rfl]
  rw [hr]
  obtain ⟨gs, hgs, hen, hca⟩ := sign_call name hc
  have hnl : name.length <= maxLen := by
    unfold cmpL at hc
    simp only [List.contains_iff_mem, List.mem_cons, List.not_mem_nil, or_false] at hc
    rcases hc with rfl | rfl | rfl | rfl | rfl | rfl <;> decide
  obtain ⟨g1, _, _, g4, _⟩ := hx.flat Trm.flatT
  obtain ⟨ta, tb⟩ := g1 (by simp)
  obtain ⟨t0, t1, t2⟩ := g4.three 0 (by simp) rfl
  obtain ⟨u0, u1, u2⟩ := g4.three 1 (by simp) rfl
  obtain ⟨mb, mo, q1, q2, q3⟩ := hg.signs
  have HV1 := Lib.hid (hv t (by simp))
  have HV2 := Lib.hid (hv u (by simp))
  have HCA := Lib.hid (hca (valueF s env t) (valueF s env u))
  simp only [List.getElem_cons_zero, List.getElem_cons_succ, Nat.zero_mul, Nat.add_zero, Nat.one_mul] at t0 t1 t2 u0 u1 u2
  have HK : Hid (∀ W', Below (hdW w s x l y env z (.mk 9 name n [t, u] binds fl) fa).heap.size (hdW w s x l y env z (.mk 9 name n [t, u] binds fl) fa) W' -> W'.cell? ⟨0, 0, none⟩ = some (.map (some mb)) /\ (Instr.lookup 168 (.map (some mb)) (.string ⟨name.toArray⟩) false).run Tryz.prog W' = .ok (.func (.func gs) #[] #[]) W' /\
      W'.cell? ⟨w.heap.size, 0, none⟩ = some (.slice x.slots.a s.slots.length x.slots.cap) /\ W'.cell? ⟨w.heap.size, 1, none⟩ = some (.slice x.rooms.a s.rooms.length x.rooms.cap) /\ W'.cell? ⟨w.heap.size, 2, none⟩ = some (.slice x.people.a s.people.length x.people.cap) /\ W'.cell? ⟨w.heap.size, 3, none⟩ = some (.slice x.groups.a s.groups.length x.groups.cap) /\ W'.cell? ⟨w.heap.size, 4, none⟩ = some (.slice x.lessons.a s.lessons.length x.lessons.cap) /\ W'.cell? ⟨w.heap.size, 5, none⟩ = some (.slice y.a l.length y.cap) /\
      W'.cell? ⟨w.heap.size + 1, 0, none⟩ = some (.slice z.a env.length z.cap) /\ W'.cell? ⟨w.heap.size + 1 + 1, 1, none⟩ = some (.string ⟨name.toArray⟩) /\ W'.cell? ⟨w.heap.size + 1 + 1, 3, none⟩ = some (.slice fa.t.a 2 fa.t.cap) /\
      W'.cell? ⟨fa.t.b, fa.t.o, none⟩ = some (.int .i64 t.kind) /\ W'.cell? ⟨fa.t.b, fa.t.o + 1, none⟩ = some (.string ⟨t.name.toArray⟩) /\ W'.cell? ⟨fa.t.b, fa.t.o + 2, none⟩ = some (.int .i64 t.n) /\
      W'.cell? ⟨fa.t.b, fa.t.o + 3, none⟩ = some (.int .i64 u.kind) /\ W'.cell? ⟨fa.t.b, fa.t.o + 3 + 1, none⟩ = some (.string ⟨u.name.toArray⟩) /\ W'.cell? ⟨fa.t.b, fa.t.o + 3 + 2, none⟩ = some (.int .i64 u.n)) :=
    Lib.hid (fun W' hW => by
      have hw : Below w.heap.size w W' := hb.trans (hW.mono hb.size)
      have c1 := (hW.block w.heap.size (Array.getElem?_eq_some_iff.1 hb1).1).trans hb1
      have c2 := (hW.block (w.heap.size + 1) (Array.getElem?_eq_some_iff.1 hb2).1).trans hb2
      have c3 := (hW.block (w.heap.size + 1 + 1) (Array.getElem?_eq_some_iff.1 hb3).1).trans hb3
      have hl := q3 W' ((hw.block _ (Array.getElem?_eq_some_iff.1 q2).1).trans q2) (.string ⟨name.toArray⟩) ⟨_, hnl, rfl⟩
      simp only [keyBs_str, hgs] at hl
      refine ⟨(hw.cell (World.block_lt_of_cell? w _ q1)).trans q1, hl, cell_of_heap c1 rfl, cell_of_heap c1 rfl, cell_of_heap c1 rfl, cell_of_heap c1 rfl, cell_of_heap c1 rfl, cell_of_heap c1 rfl, cell_of_heap c2 rfl, cell_of_heap c3 rfl, cell_of_heap c3 rfl, ?_, ?_, ?_, ?_, ?_, ?_⟩
      · exact (hw.cell (p := ⟨fa.t.b, fa.t.o, none⟩) tb).trans t0
      · exact (hw.cell (p := ⟨fa.t.b, fa.t.o + 1, none⟩) tb).trans t1
      · exact (hw.cell (p := ⟨fa.t.b, fa.t.o + 2, none⟩) tb).trans t2
      · exact (hw.cell (p := ⟨fa.t.b, fa.t.o + 3, none⟩) tb).trans u0
      · exact (hw.cell (p := ⟨fa.t.b, fa.t.o + 3 + 1, none⟩) tb).trans u1
      · exact (hw.cell (p := ⟨fa.t.b, fa.t.o + 3 + 2, none⟩) tb).trans u2)
  have HB := Lib.hid hb
  have hmf : ∀ (fn : Fn) (first cap : Array Value) (w : World), (Instr.makeFunc fn first cap).run Tryz.prog w = .ok (.func fn first cap) w := fun _ _ _ _ => rfl
  clear hg hx hc hv hb hb1 hb2 hb3 hr hgs hca g1 g4 tb t0 t1 t2 u0 u1 u2 q1 q2 q3
  unfold stV at HV1 HV2 ⊢
  generalize valueF s env t = va at HV1 HCA ⊢
  generalize valueF s env u = vb at HV2 HCA ⊢
  generalize cmpHolds name va vb = res at HCA ⊢
  simp only [hdW, ndV, FrmA.cells, SlA.val, Frm.kind, Frm.name, Frm.n, Frm.terms, Frm.binds, Frm.l, List.length_cons, List.length_nil, Nat.zero_add, Nat.reduceAdd, ta] at HB HK ⊢
  go_enter Tryz.func56, Tryz.ntmps56
  go_wp2_with fail
  go_region_held3 (fun w' => w'.cell? ⟨0, 0, none⟩ = some (.map (some mb)) /\ (Instr.lookup 168 (.map (some mb)) (.string ⟨name.toArray⟩) false).run Tryz.prog w' = .ok (.func (.func gs) #[] #[]) w' /\ w'.cell? ⟨w.heap.size, 0, none⟩ = some (.slice x.slots.a s.slots.length x.slots.cap) /\ w'.cell? ⟨w.heap.size, 1, none⟩ = some (.slice x.rooms.a s.rooms.length x.rooms.cap) /\ w'.cell? ⟨w.heap.size, 2, none⟩ = some (.slice x.people.a s.people.length x.people.cap) /\ w'.cell? ⟨w.heap.size, 3, none⟩ = some (.slice x.groups.a s.groups.length x.groups.cap) /\ w'.cell? ⟨w.heap.size, 4, none⟩ = some (.slice x.lessons.a s.lessons.length x.lessons.cap) /\ w'.cell? ⟨w.heap.size, 5, none⟩ = some (.slice y.a l.length y.cap) /\ w'.cell? ⟨w.heap.size + 1, 0, none⟩ = some (.slice z.a env.length z.cap) /\ w'.cell? ⟨w.heap.size + 1 + 1, 1, none⟩ = some (.string ⟨name.toArray⟩) /\ w'.cell? ⟨w.heap.size + 1 + 1, 3, none⟩ = some (.slice (some ⟨fa.t.b, fa.t.o, none⟩) 2 fa.t.cap) /\ w'.cell? ⟨fa.t.b, fa.t.o, none⟩ = some (.int .i64 t.kind) /\ w'.cell? ⟨fa.t.b, fa.t.o + 1, none⟩ = some (.string ⟨t.name.toArray⟩) /\ w'.cell? ⟨fa.t.b, fa.t.o + 2, none⟩ = some (.int .i64 t.n) /\ w'.cell? ⟨fa.t.b, fa.t.o + 3, none⟩ = some (.int .i64 u.kind) /\ w'.cell? ⟨fa.t.b, fa.t.o + 3 + 1, none⟩ = some (.string ⟨u.name.toArray⟩) /\ w'.cell? ⟨fa.t.b, fa.t.o + 3 + 2, none⟩ = some (.int .i64 u.n)) ((refine HK.out _ ?_; first | exact HN2.out | exact HN1.out | exact (Below.refl _ _).drew | fail)) (first
    | (go_at_call 107; refine (HV2.out _ (HB.out.trans (HN1.out.mono HB.out.size))).mono ?_; rintro e w2 ⟨rfl, hbb⟩; have HN2 := Lib.hid (HN1.out.trans (hbb.mono HN1.out.size)); clear hbb)
    | (go_at_call 107; refine (HV1.out _ HB.out.drew).mono ?_; rintro e w1 ⟨rfl, hbb⟩; have HN1 := Lib.hid (Below.trans (Below.drew (Below.refl _ _)) hbb); clear hbb)
    | (go_at_call 106; refine (compare_any va vb _).mono ?_; rintro e w3 ⟨rfl, rfl⟩)
    | (refine (HCA.out _).mono ?_; rintro e w3 ⟨rfl, rfl⟩))
  all_goals
    go_wp2_with fail
    go_ret
    exact ⟨rfl, HB.out.trans (HN2.out.mono HB.out.size)⟩
end Go.Proofs.YtjjkfgjnadaheaaGreatDoor
/- eval.holds: atoms. -/
namespace Go.Proofs.YtjjkfgjnadaheaaGreatDoor
open Go.RowKit Go.Chalk
set_option maxRecDepth 100000 in
set_option maxHeartbeats 4000000 in
theorem holds_atom (s : Schl) (x : SchA) (l : List Plc) (y : SlA) (env : List Ev) (z : SlA) (kind : Int) (name : Bs) (n : Int) (t u : Trm) (binds : List Bnd) (fl : List Frm) (fa : FrmA) (w : World) (hk : 3 <= kind /\ kind <= 8) (hg : GG w) (hx : SlIn w (· < w.heap.size) ([t, u].map Trm.toD) fa.t)
    (hs : SchIn w (· < w.heap.size) s x) (hf : SchFit s) (hy : SlIn w (· < w.heap.size) (l.map Plc.toD) y) (ha : kind = 3 ∨ kind = 4 -> 0 <= (evOf env t.name).at_ /\ (evOf env t.name).at_ < l.length)
    (hv : ∀ c ∈ [t, u], ∀ W, Below w.heap.size w W -> Calls Tryz.prog 108 #[.slice z.a env.length z.cap, .agg #[.int .i64 c.kind, .string ⟨c.name.toArray⟩, .int .i64 c.n]] W fun e w' => e = .returned (.int .i64 (evOf env c.name).at_) /\ Below W.heap.size W w') :
    Calls Tryz.prog 56 #[stV s x l y, .slice z.a env.length z.cap, ndV (.mk kind name n [t, u] binds fl, fa)] w fun e w' => e = .returned (.bool (holdsF s l env (.mk kind name n [t, u] binds fl))) /\ Below w.heap.size w w' := by
  have hb := hdW_below w s x l y env z (.mk kind name n [t, u] binds fl) fa
  obtain ⟨hb1, hb2, hb3⟩ := hdW_box w s x l y env z (.mk kind name n [t, u] binds fl) fa
  have hr : holdsF s l env (.mk kind name n [t, u] binds fl) = atomHolds s l kind (evOf env t.name).at_ (evOf env u.name).at_ := by rw [holdsF_two, if_neg (by omega), if_neg (by omega), if_neg (by omega)]
  rw [hr]
  obtain ⟨gs, hgs, hen, hca⟩ := atom_call kind hk
  obtain ⟨g1, _, _, g4, _⟩ := hx.flat Trm.flatT
  obtain ⟨ta, tb⟩ := g1 (by simp)
  obtain ⟨t0, t1, t2⟩ := g4.three 0 (by simp) rfl
  obtain ⟨u0, u1, u2⟩ := g4.three 1 (by simp) rfl
  obtain ⟨mb, mo, q1, q2, q3⟩ := hg.atoms
  have HV1 := Lib.hid (hv t (by simp))
  have HV2 := Lib.hid (hv u (by simp))
  have HCA := Lib.hid (fun (W : World) (hW : Below w.heap.size w W) => hca s x l y (evOf env t.name).at_ (evOf env u.name).at_ W (hs.later hW hW.size) hf (hy.later hW hW.size) ha)
  simp only [List.getElem_cons_zero, List.getElem_cons_succ, Nat.zero_mul, Nat.add_zero, Nat.one_mul] at t0 t1 t2 u0 u1 u2
  have HK : Hid (∀ W', Below (hdW w s x l y env z (.mk kind name n [t, u] binds fl) fa).heap.size (hdW w s x l y env z (.mk kind name n [t, u] binds fl) fa) W' ->       W'.cell? ⟨w.heap.size, 0, none⟩ = some (.slice x.slots.a s.slots.length x.slots.cap) /\ W'.cell? ⟨w.heap.size, 1, none⟩ = some (.slice x.rooms.a s.rooms.length x.rooms.cap) /\ W'.cell? ⟨w.heap.size, 2, none⟩ = some (.slice x.people.a s.people.length x.people.cap) /\ W'.cell? ⟨w.heap.size, 3, none⟩ = some (.slice x.groups.a s.groups.length x.groups.cap) /\ W'.cell? ⟨w.heap.size, 4, none⟩ = some (.slice x.lessons.a s.lessons.length x.lessons.cap) /\ W'.cell? ⟨w.heap.size, 5, none⟩ = some (.slice y.a l.length y.cap) /\
      W'.cell? ⟨w.heap.size + 1, 0, none⟩ = some (.slice z.a env.length z.cap) /\ W'.cell? ⟨w.heap.size + 1 + 1, 3, none⟩ = some (.slice fa.t.a 2 fa.t.cap) /\
      W'.cell? ⟨fa.t.b, fa.t.o, none⟩ = some (.int .i64 t.kind) /\ W'.cell? ⟨fa.t.b, fa.t.o + 1, none⟩ = some (.string ⟨t.name.toArray⟩) /\ W'.cell? ⟨fa.t.b, fa.t.o + 2, none⟩ = some (.int .i64 t.n) /\
      W'.cell? ⟨fa.t.b, fa.t.o + 3, none⟩ = some (.int .i64 u.kind) /\ W'.cell? ⟨fa.t.b, fa.t.o + 3 + 1, none⟩ = some (.string ⟨u.name.toArray⟩) /\ W'.cell? ⟨fa.t.b, fa.t.o + 3 + 2, none⟩ = some (.int .i64 u.n)) :=
    Lib.hid (fun W' hW => by
      have hw : Below w.heap.size w W' := hb.trans (hW.mono hb.size)
      have c1 := (hW.block w.heap.size (Array.getElem?_eq_some_iff.1 hb1).1).trans hb1
      have c2 := (hW.block (w.heap.size + 1) (Array.getElem?_eq_some_iff.1 hb2).1).trans hb2
      have c3 := (hW.block (w.heap.size + 1 + 1) (Array.getElem?_eq_some_iff.1 hb3).1).trans hb3
      refine ⟨cell_of_heap c1 rfl, cell_of_heap c1 rfl, cell_of_heap c1 rfl, cell_of_heap c1 rfl, cell_of_heap c1 rfl, cell_of_heap c1 rfl, cell_of_heap c2 rfl, cell_of_heap c3 rfl, ?_, ?_, ?_, ?_, ?_, ?_⟩
      · exact (hw.cell (p := ⟨fa.t.b, fa.t.o, none⟩) tb).trans t0
      · exact (hw.cell (p := ⟨fa.t.b, fa.t.o + 1, none⟩) tb).trans t1
      · exact (hw.cell (p := ⟨fa.t.b, fa.t.o + 2, none⟩) tb).trans t2
      · exact (hw.cell (p := ⟨fa.t.b, fa.t.o + 3, none⟩) tb).trans u0
      · exact (hw.cell (p := ⟨fa.t.b, fa.t.o + 3 + 1, none⟩) tb).trans u1
      · exact (hw.cell (p := ⟨fa.t.b, fa.t.o + 3 + 2, none⟩) tb).trans u2)
  have HB := Lib.hid hb
  have hm0 := (hb.cell (World.block_lt_of_cell? w _ q1)).trans q1
  have hl := q3 (hdW w s x l y env z (.mk kind name n [t, u] binds fl) fa) ((hb.block _ (Array.getElem?_eq_some_iff.1 q2).1).trans q2) (.int .i64 kind) ⟨_, (show I64 kind by unfold I64; omega), rfl⟩
  have hkd : (decide (3 <= kind) && decide (kind <= 8)) = true := by simp; omega
  replace hl := hl.trans (show Result.ok (Value.tuple #[atomFn kind, .bool (decide (3 <= kind) && decide (kind <= 8))]) _ = Result.ok (Value.tuple #[.func (.func gs) #[] #[], .bool true]) _ by rw [hgs, hkd])
  have k1 : (kind == 1) = false := by simp; omega
  have k2 : (kind == 2) = false := by simp; omega
  have k9 : (kind == 9) = false := by simp; omega
  have k10 : (kind == 10) = false := by simp; omega
  have k11 : (kind == 11) = false := by simp; omega
  have k12 : (kind == 12) = false := by simp; omega
  have k13 : (kind == 13) = false := by simp; omega
  have hmf : ∀ (fn : Fn) (first cap : Array Value) (w : World), (Instr.makeFunc fn first cap).run Tryz.prog w = .ok (.func fn first cap) w := fun _ _ _ _ => rfl
  clear hg hx hs hf hy ha hk hkd hv hb hb1 hb2 hb3 hr hgs hca g1 g4 tb t0 t1 t2 u0 u1 u2 q1 q2 q3
  unfold stV at HCA ⊢
  generalize (evOf env t.name).at_ = va at HV1 HCA ⊢
  generalize (evOf env u.name).at_ = vb at HV2 HCA ⊢
  generalize atomHolds s l kind va vb = res at HCA ⊢
  simp only [hdW, ndV, FrmA.cells, SlA.val, Frm.kind, Frm.name, Frm.n, Frm.terms, Frm.binds, Frm.l, List.length_cons, List.length_nil, Nat.zero_add, Nat.reduceAdd, ta] at HB HK hl hm0 ⊢
  go_enter Tryz.func56, Tryz.ntmps56
  go_wp2_with fail
  go_region_held3 (fun w' => w'.cell? ⟨w.heap.size, 0, none⟩ = some (.slice x.slots.a s.slots.length x.slots.cap) /\ w'.cell? ⟨w.heap.size, 1, none⟩ = some (.slice x.rooms.a s.rooms.length x.rooms.cap) /\ w'.cell? ⟨w.heap.size, 2, none⟩ = some (.slice x.people.a s.people.length x.people.cap) /\ w'.cell? ⟨w.heap.size, 3, none⟩ = some (.slice x.groups.a s.groups.length x.groups.cap) /\ w'.cell? ⟨w.heap.size, 4, none⟩ = some (.slice x.lessons.a s.lessons.length x.lessons.cap) /\ w'.cell? ⟨w.heap.size, 5, none⟩ = some (.slice y.a l.length y.cap) /\ w'.cell? ⟨w.heap.size + 1, 0, none⟩ = some (.slice z.a env.length z.cap) /\ w'.cell? ⟨w.heap.size + 1 + 1, 3, none⟩ = some (.slice (some ⟨fa.t.b, fa.t.o, none⟩) 2 fa.t.cap) /\ w'.cell? ⟨fa.t.b, fa.t.o, none⟩ = some (.int .i64 t.kind) /\ w'.cell? ⟨fa.t.b, fa.t.o + 1, none⟩ = some (.string ⟨t.name.toArray⟩) /\ w'.cell? ⟨fa.t.b, fa.t.o + 2, none⟩ = some (.int .i64 t.n) /\ w'.cell? ⟨fa.t.b, fa.t.o + 3, none⟩ = some (.int .i64 u.kind) /\ w'.cell? ⟨fa.t.b, fa.t.o + 3 + 1, none⟩ = some (.string ⟨u.name.toArray⟩) /\ w'.cell? ⟨fa.t.b, fa.t.o + 3 + 2, none⟩ = some (.int .i64 u.n)) ((refine HK.out _ ?_; first | exact HN3.out | exact HN2.out | exact HN1.out | exact (Below.refl _ _).drew | fail)) (first
    | (go_at_call 108; refine (HV2.out _ (HB.out.trans (HN1.out.mono HB.out.size))).mono ?_; rintro e w2 ⟨rfl, hbb⟩; have HN2 := Lib.hid (HN1.out.trans (hbb.mono HN1.out.size)); clear hbb)
    | (go_at_call 108; refine (HV1.out _ HB.out.drew).mono ?_; rintro e w1 ⟨rfl, hbb⟩; have HN1 := Lib.hid (Below.trans (Below.drew (Below.refl _ _)) hbb); clear hbb)
    | (refine (HCA.out _ (HB.out.trans (HN2.out.mono HB.out.size))).mono ?_; rintro e w3 ⟨rfl, hbb⟩; have HN3 := Lib.hid (HN2.out.trans (hbb.mono HN2.out.size)); clear hbb))
  all_goals
    go_wp2_with fail
    go_ret
    exact ⟨rfl, HB.out.trans (HN3.out.mono HB.out.size)⟩
end Go.Proofs.YtjjkfgjnadaheaaGreatDoor
