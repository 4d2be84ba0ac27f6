/- The reference's Split answers true just for what the document calls a version (plain). -/
import Derived.Test.YtbkcjgjcnnggbaaSplit
namespace Go.Proofs.Ytbkcjgjcnnggbaa.Q
open Go.RowKit Gw
set_option linter.unusedVariables false
theorem cutDash_split : ∀ r : List Nat, r = (cutDash r).1 ++ (match (cutDash r).2 with | none => [] | some p => 45 :: p)
  | [] => rfl
  | c :: r => by
    have ih := cutDash_split r
    by_cases h : c = 45
    · subst h; rfl
    · simp only [cutDash, if_neg h, List.cons_append]
      rw [← ih]
theorem cutFrom_v (r : List Nat) : cutFrom (118 :: r) 0 = (cutDash r).1.length + 1 := by simp [cutFrom, cutDash]
theorem take_v (r : List Nat) : ((118 :: r).take (cutFrom (118 :: r) 0)).drop 1 = (cutDash r).1 := by
  rw [cutFrom_v, List.take_succ_cons, List.drop_succ_cons, List.drop_zero]
  have h := cutDash_split r
  generalize (cutDash r).1 = x at *
  generalize (cutDash r).2 = y at *
  rw [h, List.take_left']
  rfl
theorem drop_v (r p : List Nat) (hp : (cutDash r).2 = some p) : (118 :: r).drop (cutFrom (118 :: r) 0 + 1) = p := by
  rw [cutFrom_v, List.drop_succ_cons]
  have h := cutDash_split r
  rw [hp] at h
  generalize (cutDash r).1 = x at *
  rw [h]
  simp
theorem cut_size (r : List Nat) : cutFrom (118 :: r) 0 = (118 :: r).length ↔ (cutDash r).2 = none := by
  rw [cutFrom_v, List.length_cons]
  have h := congrArg List.length (cutDash_split r)
  rw [List.length_append] at h
  cases hp : (cutDash r).2 with
  | none => rw [hp] at h; simp at h; simp; omega
  | some p => rw [hp] at h; simp at h; simp; omega
theorem splitOf_len (s : ByteArray) (cut : Nat) (l : List ByteArray) (h : l.length ≠ 3) : splitOf s cut l = zeroV := by
  match l, h with
  | [], _ => rfl
  | [_], _ => rfl
  | [_, _], _ => rfl
  | [_, _, _], h => exact absurd rfl h
  | _ :: _ :: _ :: _ :: _, _ => rfl
theorem splitV_ok (s : ByteArray) : (splitV s).2.2.2.2 = isVersion (bs s) := by
  unfold splitV
  cases hb : bs s with
  | nil => rfl
  | cons c r =>
    rw [if_neg (by simp)]
    by_cases h : c = 118
    · subst h
      rw [if_pos (by simp)]
      have hsz : s.size = (118 :: r).length := by rw [← bs_length, hb]
      unfold splitS
      rw [hb, take_v]
      simp only [isVersion, coreOk]
      by_cases h3 : (parts 46 (cutDash r).1).length = 3
      · obtain ⟨a, b, c, hp⟩ : ∃ a b c, parts 46 (cutDash r).1 = [a, b, c] := by
          match parts 46 (cutDash r).1, h3 with
          | [a, b, c], _ => exact ⟨a, b, c, rfl⟩
        have ho : ∀ p ∈ parts 46 (cutDash r).1, ∀ x ∈ p, x < 256 := by
          refine parts_oct (fun x hx => bs_oct s x ?_)
          rw [hb]
          refine List.mem_cons_of_mem _ ?_
          rw [cutDash_split r]
          exact List.mem_append_left _ hx
        rw [hp] at ho ⊢
        simp only [List.map_cons, List.map_nil, splitOf, bs_ofB (ho a (by simp)), bs_ofB (ho b (by simp)), bs_ofB (ho c (by simp))]
        simp only [List.length_cons, List.length_nil, List.all_cons, List.all_nil, Bool.and_true]
        by_cases hn : (isNum a && isNum b && isNum c) = true
        · rw [if_pos hn, hsz]
          rw [show (isNum a && (isNum b && isNum c)) = true from by rw [← Bool.and_assoc]; exact hn]
          by_cases hc : cutFrom (118 :: r) 0 = (118 :: r).length
          · rw [if_pos hc, (cut_size r).1 hc]; rfl
          · rw [if_neg hc]
            cases hp2 : (cutDash r).2 with
            | none => exact absurd ((cut_size r).2 hp2) hc
            | some p =>
              rw [hb, drop_v r p hp2]
              simp only [preOk]
              by_cases hw : (parts 46 p).all isWord = true
              · rw [if_pos hw, hw]; rfl
              · rw [if_neg hw, Bool.eq_false_iff.2 hw]; rfl
        · rw [if_neg hn, show (isNum a && (isNum b && isNum c)) = false from by rw [← Bool.and_assoc]; exact Bool.eq_false_iff.2 hn]; rfl
      · rw [splitOf_len _ _ _ (by rw [List.length_map]; exact h3), beq_eq_false_iff_ne.2 h3]; rfl
    · rw [if_neg (by simp; exact h)]
      unfold isVersion
      split
      · rename_i heq; exact absurd (List.cons.inj heq).1 h
      · rfl
end Go.Proofs.Ytbkcjgjcnnggbaa.Q
