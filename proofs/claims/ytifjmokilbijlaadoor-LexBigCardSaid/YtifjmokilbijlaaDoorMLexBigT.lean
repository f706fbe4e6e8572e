-- The law LexBig, plainly.
import Derived.Test.YtifjmokilbijlaaDoorPLexx15
import Derived.Test.YtifjmokilbijlaaDoorMLexRefT
import Derived.Lib.LazyBuf
namespace Go.Proofs.YtifjmokilbijlaaDoor.PLex
open Go Go.RowKit Go.Proofs.YtifjmokilbijlaaDoorW.PrintWords Go.Proofs.YtifjmokilbijlaaDoorW.PrintLast Go.Proofs.YtifjmokilbijlaaDoorW.PrintMore BallLex
set_option linter.unusedVariables false
theorem str_rep (n : Nat) : strOfNums (List.replicate n (32 : Int)) = ⟨(List.replicate n (32 : UInt8)).toArray⟩ := by
  have h := Go.Lib.Lz.strOfNums_map (List.replicate n (32 : UInt8))
  rw [List.map_replicate] at h
  exact h
theorem rep_size (n : Nat) : (⟨(List.replicate n (32 : UInt8)).toArray⟩ : ByteArray).size = n := by
  show (List.replicate n (32 : UInt8)).toArray.size = n
  simp
theorem rep_by (n m : Nat) (h : m < n) : by_ (⟨(List.replicate n (32 : UInt8)).toArray⟩ : ByteArray) m = 32 := by
  rw [BallLex.by_at (by rw [rep_size]; exact h)]
  show ((List.replicate n (32 : UInt8)).toArray[m]'(by simpa using h)).toNat = 32
  simp
theorem big_loop (n : Nat) (hn : n ≤ 7000) (d : Nat) : ∀ i, i + d = n → Ev (fun k => ballcocklaw05_LexBig.l0 k (List.replicate i 32 ++ List.replicate d 0) (i : Int)) true := by
  induction d with
  | zero =>
    intro i hi
    obtain rfl : i = n := by omega
    rw [List.replicate_zero, List.append_nil]
    refine Ev.step (fun k => by rw [ballcocklaw05_LexBig.l0]) (Ev_neg (by rw [List.length_replicate]; omega) ?_)
    rw [str_rep, List.length_replicate]
    have hz := rep_size i
    have hb := rep_by i
    generalize (⟨(List.replicate i (32 : UInt8)).toArray⟩ : ByteArray) = X at hz hb ⊢
    have ht : lex_Tokens.f X = some (tokR X) := by unfold lex_Tokens.f; rw [if_pos (by omega)]
    refine Ev_bnd ht ?_
    unfold tokR
    rw [hz]
    by_cases hbig : 6000 < i
    · rw [if_pos hbig]
      exact Ev_pos (by omega) (Ev_pos rfl (Ev.now _))
    · rw [if_neg hbig]
      have hc : cont X [] 0 = ([(⟨3, X.extract i i, (i : Int)⟩ : S32)], 0, 0) := by
        unfold cont
        rw [toks_blank (fun m h => hb m (by omega)), hz]
        rfl
      rw [hc]
      have he : (X.extract i i).toList = [] := by
        have e : X.extract i i = ⟨#[]⟩ := by
          apply ba_ext
          · rw [ByteArray.size_extract]; show _ = 0; omega
          · intro m hm; rw [ByteArray.size_extract] at hm; omega
        rw [e, ByteArray.toList_eq]
      refine Ev_neg (by omega) (Ev_pos rfl (Ev_pos rfl (Ev_pos (by show (0 : Int) < 1; decide) ?_)))
      refine Ev_cast (Ev.now _) ?_
      show ((3 : Int) == 3 && ((X.extract i i).toList == [] && ((i : Int) == (i : Int)))) = true
      rw [he]; simp
  | succ d ih =>
    intro i hi
    refine Ev.step (fun k => by rw [ballcocklaw05_LexBig.l0]) (Ev_pos (by rw [List.length_append, List.length_replicate, List.length_replicate]; omega) (Ev_pos (by omega) ?_))
    rw [wsucc i (by omega), Int.toNat_natCast]
    have e : (List.replicate i (32 : Int) ++ List.replicate (d + 1) 0).set i 32 = List.replicate (i + 1) 32 ++ List.replicate d 0 := by
      rw [List.set_append, if_neg (by simp)]
      rw [List.length_replicate, Nat.sub_self, List.replicate_succ, List.set_cons_zero, List.replicate_succ', List.append_assoc]; rfl
    rw [e]
    exact ih (i + 1) (by omega)
theorem law_Big : ballcocklaw05_LexBig.Pure := by
  intro a ha
  have hr : 0 ≤ a ∧ a < 65536 := by
    simp [Lit.wf, IntKind.min, IntKind.max, IntKind.signed, IntKind.bits] at ha
    omega
  obtain ⟨m, rfl⟩ := Int.eq_ofNat_of_zero_le hr.1
  refine Ev_and (g := fun k => ballcocklaw05_LexBig.f k (m : Int)) ?_
  unfold ballcocklaw05_LexBig.f
  refine Ev_bnd awake_true (Ev_pos rfl ?_)
  have e : Int.tmod (wrap64 (m : Int)) 7000 = ((m % 7000 : Nat) : Int) := by
    rw [w64 (by omega) (by omega), Int.tmod_eq_emod_of_nonneg (by omega)]
    omega
  rw [e, Int.toNat_natCast]
  have h := big_loop (m % 7000) (by omega) (m % 7000) 0 (Nat.zero_add _)
  exact Ev_pos (by omega) (Ev_pos (by omega) h)
end Go.Proofs.YtifjmokilbijlaaDoor.PLex
