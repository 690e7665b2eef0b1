/- Joined texts: PLen. -/
import Derived.Test.YtpmalchlecnjbaaGreatDoorV07
set_option linter.unusedVariables false
set_option linter.unusedSimpArgs false
/- Lengths of canonical texts. No program is named here. -/
namespace Go.Chalk
theorem kwOf_len {t:List (Bs×Int)} (h:t.all (fun p=>decide (p.1.length<=8))=true) (n:Int):(kwOf t n).length<=8:=by
 unfold kwOf
 cases hf:t.find? (fun p=>p.2==n) with
 | none=>simp
 | some p =>
  have:=List.all_eq_true.1 h p (List.mem_of_find?_eq_some hf)
  simpa using this
theorem kwSort_len (n:Int):(kwOf kwSort n).length<=8:=kwOf_len (by decide) n
theorem kwAtom_len (n:Int):(kwOf kwAtom n).length<=8:=kwOf_len (by decide) n
theorem kwTerm_len (n:Int):(kwOf kwTerm n).length<=8:=kwOf_len (by decide) n
theorem kwAll_len (n:Int):(kwOf kwAll n).length<=8:=kwOf_len (by decide) n
theorem decDigits_len:∀ (d n:Nat),n<10 ^ (d+1)->(Lib.decDigits n).length<=d+1
 | 0,n,h=>by
  have:n<10:=by simpa using h
  rw [Lib.decDigits,dif_pos this];simp
 | d+1,n,h=>by
  rw [Lib.decDigits]
  split
  ·simp
  ·have:=decDigits_len d (n / 10) (by rw [Nat.pow_succ] at h;omega)
   simp only [List.length_append,List.length_singleton];omega
theorem decI_len {n:Int} (h0:0<=n) (h:n<=1099511627776):(decI n).length<=13:=decDigits_len 12 n.toNat (by
 have:n.toNat<=1099511627776:=by omega
 omega)
theorem named_len {s:Bs} (h:frmNamed s=true):s.length<=64:=by
 cases s with
 | nil=>simp
 | cons c r =>
  rw [frmNamed] at h
  simp only [Bool.and_eq_true,decide_eq_true_eq] at h
  exact h.1.1.1
theorem txtTerm_len {t:Trm} (h:termedF t=true):(txtTerm t).length<=80:=by
 unfold txtTerm
 unfold termedF at h
 split
 ·rename_i h1
  rw [if_pos h1] at h
  simp only [numberB,Bool.and_eq_true,decide_eq_true_eq] at h
  have:=decI_len h.2.1 h.2.2;omega
 ·rename_i h1
  rw [if_neg h1] at h
  simp only [Bool.and_eq_true,decide_eq_true_eq] at h
  have h2:=named_len h.1.2
  split
  ·omega
  ·have:=kwTerm_len t.kind
   simp only [List.length_append,List.length_cons,List.length_nil];omega
theorem txtBind_len {b:Bnd} (h:bndOk b=true):(txtBind b).length<=80:=by
 unfold bndOk at h
 simp only [Bool.and_eq_true,decide_eq_true_eq] at h
 have:=named_len h.1.1
 have:=kwSort_len b.sort
 unfold txtBind
 simp only [List.length_append,List.length_cons,List.length_nil];omega
theorem txtMore_len:∀ {bs:List Bnd},bs.all bndOk=true->(txtMore bs).length<=82*bs.length
 | [],_=>by simp [txtMore]
 | b :: r,h=>by
  simp only [List.all_cons,Bool.and_eq_true] at h
  have h1:=txtBind_len h.1
  have h2:=txtMore_len h.2
  rw [txtMore]
  simp only [List.length_append,List.length_cons,List.length_nil] at h2 ⊢;omega
theorem txtBinds_len {bs:List Bnd} (h:bs.all bndOk=true) (hl:bs.length<=6):(txtBinds bs).length<=500:=by
 cases bs with
 | nil=>simp [txtBinds]
 | cons b r =>
  simp only [List.all_cons,Bool.and_eq_true] at h
  have h1:=txtBind_len h.1
  have h2:=txtMore_len h.2
  rw [txtBinds]
  simp only [List.length_append,List.length_cons] at hl ⊢;omega
theorem cmp_len {s:Bs} (h:cmpL.contains s=true):s.length<=2:=by
 have:∀ x∈cmpL,x.length<=2:=by decide
 exact this s (by simpa using h)
theorem txtIn_len (f:Frm) (least:Nat):(txtIn f least).length<=(txtF f).length+2:=by
 unfold txtIn
 split
 ·simp only [List.length_append,List.length_cons,List.length_nil];omega
 ·omega
theorem txtF_len:∀ f,wf f->(txtF f).length<=600*f.size:=by
 refine wf_ind ?_ ?_ ?_ ?_ ?_ ?_
 ·rintro k (rfl | rfl)
  ·rw [txtF_nil];simp [Frm.size,fsizes]
  ·rw [txtF_nil];simp [Frm.size,fsizes]
 ·intro k a b h1 h2 ha hb
  rw [txtF_two,if_neg (by omega),if_neg (by omega),if_neg (by omega),if_neg (by omega),if_neg (by omega),if_neg (by omega),if_neg (by omega),if_neg (by omega)]
  have e1:=txtTerm_len (t:=⟨2,a,0⟩) (by simp [termedF,ha])
  have e2:=txtTerm_len (t:=⟨2,b,0⟩) (by simp [termedF,hb])
  have e3:=kwAtom_len k
  simp only [List.length_append,List.length_cons,List.length_nil,Frm.size,fsizes];omega
 ·intro s t u hs ht hu
  rw [txtF_two,if_neg (by omega),if_neg (by omega),if_pos rfl]
  have e1:=txtTerm_len ht
  have e2:=txtTerm_len hu
  have e3:=cmp_len hs
  simp only [List.length_append,List.length_cons,List.length_nil,Frm.size,fsizes];omega
 ·intro g _ ih
  have e:txtF (.mk 10 [] 0 [] [] [g])=[33]++txtIn g 4:=by rw [txtF_nil];simp [txtAt,txtIn]
  rw [e]
  have:=txtIn_len g 4
  simp only [List.length_append,List.length_cons,List.length_nil,Frm.size,fsizes];omega
 ·intro k g g' h1 h2 _ _ ih1 ih2
  have:k=11∨k=12∨k=13:=by omega
  rcases this with rfl | rfl | rfl
  ·have e:txtF (.mk 11 [] 0 [] [] [g,g'])=txtIn g 3++([32,38,32]++txtIn g' 4):=by rw [txtF_nil];simp [txtAt,txtIn]
   rw [e]
   have:=txtIn_len g 3
   have:=txtIn_len g' 4
   simp only [List.length_append,List.length_cons,List.length_nil,Frm.size,fsizes];omega
  ·have e:txtF (.mk 12 [] 0 [] [] [g,g'])=txtIn g 2++([32,124,32]++txtIn g' 3):=by rw [txtF_nil];simp [txtAt,txtIn]
   rw [e]
   have:=txtIn_len g 2
   have:=txtIn_len g' 3
   simp only [List.length_append,List.length_cons,List.length_nil,Frm.size,fsizes];omega
  ·have e:txtF (.mk 13 [] 0 [] [] [g,g'])=txtIn g 2++([32,45,62,32]++txtIn g' 1):=by rw [txtF_nil];simp [txtAt,txtIn]
   rw [e]
   have:=txtIn_len g 2
   have:=txtIn_len g' 1
   simp only [List.length_append,List.length_cons,List.length_nil,Frm.size,fsizes];omega
 ·intro k n b bs g h1 h2 hn hm hz hl hbo hbs _ ih
  have hat:txtAt [g] 0 0=txtF g:=by rw [txtAt_get [g] 0 0 (by simp)];simp [txtIn]
  rw [txtF_nil,if_neg (by omega),if_neg (by omega),if_neg (by omega),if_neg (by omega),if_neg (by omega),if_neg (by omega),if_neg (by omega),if_pos h1,hat]
  have e1:=kwAll_len k
  have e2:=decI_len hn hm
  have e3:(txtBinds (b :: bs)).length<=500:=txtBinds_len (by simp [hbo,hbs]) (by simp only [List.length_cons];omega)
  have e4:(if 16<=k then decI n++[32] else []).length<=14:=by split <;> simp <;> omega
  simp only [List.length_append,List.length_cons,List.length_nil,Frm.size,fsizes];omega
theorem txtRule_len {r:Rul} (h:wholeR r=true) (hw:wf r.body):(txtRule r).length<=700+600*r.body.size:=by
 obtain ⟨h1,h2,h3,h4,h5⟩:=wholeR_iff h
 have e1:=named_len h1
 have e2:=txtF_len r.body hw
 have e3:=txtBinds_len h5 h4
 have e4:(txtHead r).length<=90:=by
  unfold txtHead
  split
  ·simp only [List.length_append,List.length_cons,List.length_nil];omega
  ·rename_i hh
   simp only [hh,Bool.false_eq_true,if_false] at h2 h3
   have:=decI_len (n:=r.weight) (by omega) (by omega)
   simp only [List.length_append,List.length_cons,List.length_nil];omega
 have e5:(if r.each.isEmpty then [] else [32,101,97,99,104,32]++txtBinds r.each).length<=506:=by split <;> simp <;> omega
 unfold txtRule
 simp only [List.length_append,List.length_cons,List.length_nil];omega
end Go.Chalk
