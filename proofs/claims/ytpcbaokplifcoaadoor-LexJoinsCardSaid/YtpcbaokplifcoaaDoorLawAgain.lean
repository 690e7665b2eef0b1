/- LexAgain: for every source, where the listed library variables hold what their text lays, the law returns true: joining the tokens of a source gives a normal form. -/
import Derived.Test.YtpcbaokplifcoaaDoorLexK
import Derived.Test.YtpcbaokplifcoaaDoorLexProps3
namespace Go.Chalk
open Go.RowKit Go.Proofs.YtpcbaokplifcoaaDoor

/-- What join_any asks. -/
structure JoinOk (ts : List Tok) : Prop where
  len : ts.length ≤ 1000000
  txt : ∀ t ∈ ts, t.text.length ≤ 281474976710656
  sp : (spaced ((ts.take (ts.length - 1)).map Tok.text)).length ≤ 140737488355328
theorem mem_sum {l : List Nat} {x : Nat} (h : x ∈ l) : x ≤ l.sum := by
  induction l with
  | nil => simp at h
  | cons a r ih => rcases List.mem_cons.1 h with rfl | h; simp; have := ih h; simp; omega
theorem JoinOk.of_lex {b : Bs} (hb : b.length ≤ 20000) {res : List Tok} {x : Nat} (h : lexS b 0 [] = (res, x, 0)) : JoinOk res := by
  obtain ⟨toks, n, hr, _, hlen, hsum⟩ := goF_right (b.length + 1) b 0 [] res x (by omega) h
  rw [List.nil_append] at hr
  subst hr
  refine ⟨by simp; omega, fun t ht => ?_, ?_⟩
  · rcases List.mem_append.1 ht with ht | ht
    · have := mem_sum (List.mem_map.2 ⟨t, ht, rfl⟩ : t.text.length ∈ toks.map (fun t => t.text.length))
      omega
    · simp at ht; subst ht; simp
  · have e : (toks ++ [(⟨4, [], n⟩ : Tok)]).take ((toks ++ [(⟨4, [], n⟩ : Tok)]).length - 1) = toks := by simp
    rw [e]
    have := spaced_length (toks.map Tok.text)
    simp only [List.map_map, List.length_map] at this
    have e2 : (toks.map (List.length ∘ Tok.text)) = toks.map (fun t => t.text.length) := rfl
    rw [e2] at this
    omega
theorem text_kt (ts : List Tok) : ts.map Tok.text = (ts.map kt).map Prod.snd := by simp [kt]
theorem JoinOk.kt {ts us : List Tok} (h : JoinOk ts) (e : us.map kt = ts.map kt) : JoinOk us := by
  have hl : us.length = ts.length := by simpa using congrArg List.length e
  have ht : us.map Tok.text = ts.map Tok.text := by rw [text_kt, text_kt, e]
  refine ⟨by rw [hl]; exact h.len, fun t hm => ?_, ?_⟩
  · have : t.text ∈ ts.map Tok.text := by rw [← ht]; exact List.mem_map.2 ⟨t, hm, rfl⟩
    obtain ⟨s, hs, he⟩ := List.mem_map.1 this
    rw [← he]; exact h.txt s hs
  · rw [List.map_take, ht, hl, ← List.map_take]; exact h.sp
theorem alike_kt {ts us : List Tok} (e : us.map kt = ts.map kt) : alikeT ts us := by
  have hl : us.length = ts.length := by simpa using congrArg List.length e
  refine ⟨hl.symm, fun i h h' => ?_⟩
  have h1 : (us.map kt)[i]? = (ts.map kt)[i]? := by rw [e]
  simp only [List.getElem?_map, List.getElem?_eq_getElem h, List.getElem?_eq_getElem h', Option.map_some, Option.some.injEq, Go.Chalk.kt, Prod.mk.injEq] at h1
  exact ⟨h1.1.symm, h1.2.symm⟩
end Go.Chalk
namespace Go.Proofs.YtpcbaokplifcoaaDoor
open Go.RowKit Go.Chalk

set_option maxRecDepth 100000 in
set_option maxHeartbeats 1000000 in
theorem again_walk (w : World) (hg : GAt w) (l : Bs) (a : Option Addr) (b o cap : Nat) (hsb : SB w w.heap.size l a b o) (hcap : l.length ≤ cap) (hmax : cap ≤ maxLen) :
    Calls Tryd.prog 5 #[.slice a l.length cap] w fun e w' => e = .returned (.bool true) ∧ Below w.heap.size w w' := by
  unfold maxLen at hmax
  have HLV := Lib.hid (live_any w hg)
  by_cases hbig : 2000 < l.length
  · have hbig' : decide ((2000 : Int) < (l.length : Int)) = true := by simp; omega
    clear hsb hg hbig
    go_enter Tryd.func5, Tryd.ntmps5
    go_wp2_with (go_at_call 9; refine HLV.out.mono ?_; rintro e w1 ⟨rfl, hb1⟩)
    go_ret
    exact ⟨rfl, hb1⟩
  · have hbig' : decide ((2000 : Int) < (l.length : Int)) = false := by simp; omega
    have htf : tokensF l = lexS l 0 [] := by unfold tokensF; rw [if_neg (by omega)]
    have HTK := Lib.hid (fun (W : World) (h : Below w.heap.size w W) => tokens_any l a b o cap W (hsb.below h h.size) hcap (hg.below h))
    have HG := Lib.hid hg
    have hlen : l.length ≤ 2000 := by omega
    clear hbig hsb hg
    have hsh := goF_shape (l.length + 1) l 0 [] (by omega)
    have hlx : goF (l.length + 1) l 0 [] = lexS l 0 [] := rfl
    rw [hlx] at hsh
    generalize hres : lexS l 0 [] = R at *
    obtain ⟨res, x, er⟩ := R
    simp only at hsh
    rcases hsh with ⟨rfl, rfl⟩ | ⟨rfl, rfl, _, _⟩
    · obtain ⟨c, m, j1, j2, j3, j4, j5⟩ := lex_again l hlen hres
      have hjo := JoinOk.of_lex (by omega) hres
      have HJO := Lib.hid hjo
      have HJM := Lib.hid (hjo.kt j5)
      have HAL := Lib.hid (alike_kt j5)
      have HTF := Lib.hid htf
      have H1 := Lib.hid j1
      have H3 := Lib.hid j3
      have H4 := Lib.hid j4
      have hml : m.length = res.length := by simpa using congrArg List.length j5
      have HML := Lib.hid hml
      have hn1 := hjo.len
      clear hres htf j1 j3 j4 j5 hjo hml hlx
      go_enter Tryd.func5, Tryd.ntmps5
      go_wp2_with (go_at_call 9; refine HLV.out.mono ?_; rintro e w1 ⟨rfl, hb1⟩)
      have HB1 := Lib.hid hb1
      clear hb1
      refine (HTK.out _ HB1.out).mono ?_
      rintro e w2 ⟨v2, q2, rfl, ho2, _, hb2⟩
      rw [HTF.out] at ho2 ⊢
      simp only at ho2 ⊢
      obtain ⟨a2, b2, o2, cap2, rfl, hr2, hc2⟩ := ho2.read
      have HB2 := Lib.hid (HB1.out.trans (hb2.mono HB1.out.size))
      have HR2 := Lib.hid hr2
      have HJN := Lib.hid (join_any res _ a2 b2 o2 cap2 w2 hr2 hc2 HJO.out.txt (HG.out.below HB2.out) HJO.out.len HJO.out.sp)
      obtain ⟨n2, hn2⟩ : ∃ n2, n2 = res.length := ⟨_, rfl⟩
      rw [← hn2] at HJN hn1 hc2 ⊢
      have HN2 := Lib.hid hn2
      clear ho2 hb2 hr2 hn2
      go_wp2_with fail
      refine HJN.out.mono ?_
      rintro e w3 ⟨v3, rfl, hv3, hb3⟩
      rw [H1.out] at hv3 ⊢
      simp only at hv3 ⊢
      obtain ⟨a3, b3, o3, cap3, rfl, hs3, hc3⟩ := hv3
      have HS3 := Lib.hid hs3
      have HB23 := Lib.hid hb3
      have HB3 := Lib.hid (HB2.out.trans (hb3.mono HB2.out.size))
      have HT3 := Lib.hid (tokens_any c a3 b3 o3 cap3 w3 hs3 hc3 (HG.out.below HB3.out))
      obtain ⟨nc, hnc⟩ : ∃ nc, nc = c.length := ⟨_, rfl⟩
      rw [← hnc] at HT3 hc3 j2 ⊢
      have HNC := Lib.hid hnc
      clear hs3 hb3 hnc
      go_wp2_with fail
      refine HT3.out.mono ?_
      rintro e w4 ⟨v4, q4, rfl, ho4, _, hb4⟩
      rw [H3.out] at ho4 ⊢
      simp only at ho4 ⊢
      obtain ⟨a4, b4, o4, cap4, rfl, hr4, hc4⟩ := ho4.read
      have HB34 := Lib.hid hb4
      have HB24 := Lib.hid (HB23.out.trans (hb4.mono HB23.out.size))
      have HB4 := Lib.hid (HB3.out.trans (hb4.mono HB3.out.size))
      have HR4 := Lib.hid hr4
      have hjn4 := join_any m _ a4 b4 o4 cap4 w4 hr4 hc4 HJM.out.txt (HG.out.below HB4.out) HJM.out.len HJM.out.sp
      rw [HML.out, ← HN2.out] at hjn4 hc4 ⊢
      have HJN4 := Lib.hid hjn4
      clear ho4 hb4 hr4 hjn4
      go_wp2_with fail
      refine HJN4.out.mono ?_
      rintro e w5 ⟨v5, rfl, hv5, hb5⟩
      rw [H4.out] at hv5 ⊢
      simp only at hv5 ⊢
      obtain ⟨a5, b5, o5, cap5, rfl, hs5, hc5⟩ := hv5
      rw [← HNC.out] at hc5 ⊢
      have HB5 := Lib.hid (HB4.out.trans (hb5.mono HB4.out.size))
      have HB25 := Lib.hid (HB24.out.trans (hb5.mono HB24.out.size))
      have HB35 := Lib.hid (HB34.out.trans (hb5.mono HB34.out.size))
      have hak := alike_any res (placesF res) (placesF m) a2 a4 b2 o2 cap2 b4 o4 cap4 w5 (HR2.out.below HB25.out HB25.out.size) ((HR4.out.below hb5 hb5.size).alike HAL.out) HJO.out.len
      rw [← HN2.out] at hak
      have HAK := Lib.hid hak
      have HS5 := Lib.hid hs5
      clear hak hb5 hs5
      have HTX3 : Hid (∀ W, Below w5.heap.size w5 W → (convert 22 9 (.slice a3 nc cap3)).run Tryd.prog W = .ok (.string ⟨c.toArray⟩) W) := fun W h => by
        have := ((HS3.out.below HB35.out HB35.out.size).below h h.size).text (P := Tryd.prog) 22 5 9 Tryd.underlying22 Tryd.underlying5 Tryd.underlying9 cap3
        rwa [← HNC.out] at this
      have HTX5 : Hid (∀ W, Below w5.heap.size w5 W → (convert 22 9 (.slice a5 nc cap5)).run Tryd.prog W = .ok (.string ⟨c.toArray⟩) W) := fun W h => by
        have := (HS5.out.below h h.size).text (P := Tryd.prog) 22 5 9 Tryd.underlying22 Tryd.underlying5 Tryd.underlying9 cap5
        rwa [← HNC.out] at this
      go_wp2_with (go_at_call 16; refine HAK.out.mono ?_; rintro e w6 ⟨rfl, hb6⟩; have t3 := HTX3.out w6 hb6; have t5 := HTX5.out w6 hb6; have HB6 := Lib.hid (HB5.out.trans (hb6.mono HB5.out.size)); clear hb6)
      go_ret
      exact ⟨by simp, HB6.out⟩
    · have HTF := Lib.hid htf
      clear htf hlx hres
      go_enter Tryd.func5, Tryd.ntmps5
      go_wp2_with (go_at_call 9; refine HLV.out.mono ?_; rintro e w1 ⟨rfl, hb1⟩)
      have HB1 := Lib.hid hb1
      clear hb1
      refine (HTK.out _ HB1.out).mono ?_
      rintro e w2 ⟨v2, q2, rfl, ho2, _, hb2⟩
      rw [HTF.out] at ho2 ⊢
      simp only at ho2 ⊢
      obtain ⟨a2, b2, o2, cap2, rfl, hr2, hc2⟩ := ho2.read
      have HB2 := Lib.hid (HB1.out.trans (hb2.mono HB1.out.size))
      clear ho2 hb2 hr2
      go_wp2_with fail
      go_ret
      exact ⟨rfl, HB2.out⟩
end Go.Proofs.YtpcbaokplifcoaaDoor
