/- Part 11 of this claim: several texts one behind the other: PureWMore. What each shows stands in its theorems; conditions: sizes of texts and lists, as the functions' definitions say. -/
import Derived.Test.YtodkjmbmlobihaaDoorMWhyMore9
import Derived.Test.YtodkjmbmlobihaaDoorMWhyMore8
import Derived.Test.YtodkjmbmlobihaaDoorMWhyMore6
import Derived.Test.YtodkjmbmlobihaaDoorMWhyMore10
section
namespace Go.Proofs.YtodkjmbmlobihaaDoor.Q
open Go.Proofs.YtodkjmbmlobihaaDoor.QB.D
open Go Go.RowKit Go.Lib Go.Proofs.YtodkjmbmlobihaaDoorW.PrintWords Go.Proofs.YtodkjmbmlobihaaDoorW.PrintLast Go.Proofs.YtodkjmbmlobihaaDoorW.PrintMore Gw
set_option linter.unusedVariables false
set_option linter.unusedSimpArgs false
theorem okE_iff (l : List S34) : okE l = true ↔ ∀ e ∈ l, badE e = false := by
  unfold okE
  rw [Bool.not_eq_true', List.any_eq_false]
  simp only [Bool.not_eq_true]
theorem okE_same {l m : List S34} (h : ∀ e, e ∈ l ↔ e ∈ m) : okE l = okE m := by
  rw [Bool.eq_iff_iff, okE_iff, okE_iff]
  exact ⟨fun g e he => g e ((h e).2 he), fun g e he => g e ((h e).1 he)⟩
theorem reach_more {l m : List S34} (h : ∀ e, e ∈ l → e ∈ m) : ∀ (d : Nat) (y : S24), ReachF l d y → ReachF m d y := by
  intro d
  induction d with
  | zero => intro y hy; exact hy
  | succ d ih =>
    rintro y ⟨e, he, h1, h2⟩
    exact ⟨e, h e he, h1, ih _ h2⟩
theorem reach_same {l m : List S34} (h : ∀ e, e ∈ l ↔ e ∈ m) (d : Nat) (y : S24) : ReachF l d y ↔ ReachF m d y := ⟨reach_more (fun e he => (h e).1 he) d y, reach_more (fun e he => (h e).2 he) d y⟩
theorem dist_same {l m : List S34} (h : ∀ e, e ∈ l ↔ e ∈ m) (d : Nat) (y : S24) : DistF l d y ↔ DistF m d y := by
  unfold DistF
  rw [reach_same h]
  exact and_congr Iff.rfl ⟨fun g n hn hr => g n hn ((reach_same h n y).2 hr), fun g n hn hr => g n hn ((reach_same h n y).1 hr)⟩
theorem minL_same {l m : List S24} (h : ∀ x, x ∈ l ↔ x ∈ m) (hg : ∀ x ∈ l, GoodN x) (hne : l ≠ []) : minL l = minL m := by
  have hne2 : m ≠ [] := fun e => by
    obtain ⟨x, hx⟩ := List.exists_mem_of_ne_nil _ hne
    have := (h x).1 hx
    rw [e] at this; cases this
  have a := minL_mem l hne
  have b := minL_mem m hne2
  have ga := hg _ a
  have gb := hg _ ((h _).2 b)
  have h1 := minL_le l hg _ ((h _).2 b)
  have h2 := minL_le m (fun x hx => hg x ((h x).2 hx)) _ ((h _).1 a)
  refine (ordN_to.eq _ _ ga gb).1 ?_
  have h3 := ordN_to.sym _ _ ga gb
  rcases ordN_to.tri (minL l) (minL m) with e | e | e
  · omega
  · exact e
  · omega
theorem isch_same {l m : List S34} {out out' : List (S24 × Nat)} {n : S24} {c : List S24} (h : ∀ e, e ∈ l ↔ e ∈ m) (hok : okE l = true) (hb : ∀ e ∈ l, Brief e.f0 ∧ Brief e.f1)
    (ho : ∀ y n, lookF out y = some n ↔ 1 ≤ n ∧ DistF l n y) (ho' : ∀ y n, lookF out' y = some n ↔ 1 ≤ n ∧ DistF m n y) (hc : IsCh l out n c) : IsCh m out' n c := by
  refine ⟨hc.pos, hc.last, fun j x hx => (dist_same h _ _).1 (hc.dist j x hx), fun j x x' hx hx' => ?_⟩
  obtain ⟨h1, h2⟩ := hc.par j x x' hx hx'
  have hmem : ∀ u, u ∈ parF l out j x' ↔ u ∈ parF m out' j x' := fun u => by
    rw [mem_parF ho, mem_parF ho', dist_same h]
    exact and_congr ⟨fun ⟨e, he, g⟩ => ⟨e, (h e).1 he, g⟩, fun ⟨e, he, g⟩ => ⟨e, (h e).2 he, g⟩⟩ Iff.rfl
  have hg : ∀ u ∈ parF l out j x', GoodN u := fun u hu => by
    obtain ⟨⟨e', he', _, hx0⟩, hdx⟩ := (mem_parF ho j _ u).1 hu
    exact mayN_good (by rw [← hx0]; exact (hb e' he').1.tiny) (dist_may hok hdx)
  refine ⟨fun e => ?_, by rw [h2]; exact minL_same hmem hg h1⟩
  obtain ⟨u, hu⟩ := List.exists_mem_of_ne_nil _ h1
  have := (hmem u).1 hu
  rw [e] at this; cases this
/-- The same needs, in whatever order and however often: the same chain. -/
theorem chain_same {l m : List S34} (h : ∀ e, e ∈ l ↔ e ∈ m) (hl : l.length ≤ 65536) (hm : m.length ≤ 65536) (hb : ∀ e ∈ l, Brief e.f0 ∧ Brief e.f1) (n : S24) (hn : Brief n) : why_Chain.f m n.f0 n.f1 = why_Chain.f l n.f0 n.f1 := by
  have hb' : ∀ e ∈ m, Brief e.f0 ∧ Brief e.f1 := fun e he => hb e ((h e).2 he)
  rcases chain_cases hl hb n hn with ⟨e1, h1⟩ | ⟨e1, h1, h2, h3⟩ | ⟨out, c, e1, hok, hmay, hout, hc, hd, _, _⟩
  · rcases chain_cases hm hb' n hn with ⟨g1, _⟩ | ⟨g1, g2, g3, _⟩ | ⟨out', c', g1, g2, g3, _⟩
    · rw [e1, g1]
    · exact absurd ⟨by rw [okE_same h]; exact g2, g3⟩ h1
    · exact absurd ⟨by rw [okE_same h]; exact g2, g3⟩ h1
  · rcases chain_cases hm hb' n hn with ⟨g1, g2⟩ | ⟨g1, g2, g3, _⟩ | ⟨out', c', g1, g2, g3, _, gc, gd, _⟩
    · exact absurd ⟨by rw [← okE_same h]; exact h1, h2⟩ g2
    · rw [e1, g1]
    · have gp := gc.pos
      refine absurd ((dist_same h _ _).2 (?_ : DistF m (c'.length - 1 + 1) n)) (h3 (c'.length - 1))
      rw [Nat.sub_add_cancel gp]
      exact gd
  · rcases chain_cases hm hb' n hn with ⟨g1, g2⟩ | ⟨g1, g2, g3, g4⟩ | ⟨out', c', g1, g2, g3, gout, gc, gd, _⟩
    · exact absurd ⟨by rw [← okE_same h]; exact hok, hmay⟩ g2
    · have hp := hc.pos
      refine absurd ((dist_same h _ _).1 (?_ : DistF l (c.length - 1 + 1) n)) (g4 (c.length - 1))
      rw [Nat.sub_add_cancel hp]
      exact hd
    · rw [e1, g1, ch_uniq (lookF_ext gout gout) gc (isch_same h hok hb hout gout hc)]
def dbl (l : List S34) : List S34 := l.flatMap (fun e => [e, e])
theorem dbl_len (l : List S34) : (dbl l).length = 2 * l.length := by
  unfold dbl
  induction l with
  | nil => rfl
  | cons x r ih => rw [List.flatMap_cons, List.length_append, ih]; simp only [List.length_cons, List.length_nil]; omega
theorem mem_dbl (l : List S34) (e : S34) : e ∈ l ↔ e ∈ dbl l.reverse := by
  unfold dbl
  rw [List.mem_flatMap]
  constructor
  · intro h; exact ⟨e, List.mem_reverse.2 h, List.mem_cons_self⟩
  · rintro ⟨x, hx, he⟩
    have : e = x := by simpa using he
    subst this
    exact List.mem_reverse.1 hx
theorem more_l0 (l m : List S34) (hl : l.length ≤ 30) (c : List S24) (e : Int) (a b : ByteArray) : ∀ (i k : Nat), i ≤ l.length → graftwoodlaw19_WhyMore.l0 (k + i) l m c e (dbl (l.drop i).reverse) ((i : Int) - 1) a b = graftwoodlaw19_WhyMore.l0 k l m c e (dbl l.reverse) (-1) a b := by
  intro i
  induction i with
  | zero => intro k _; rfl
  | succ i ih =>
    intro k hi
    have hil : i < l.length := by omega
    have e1 : ((i + 1 : Nat) : Int) - 1 = (i : Int) := by omega
    have hlen : (dbl (l.drop (i + 1)).reverse).length ≤ 60 := by rw [dbl_len, List.length_reverse, List.length_drop]; omega
    have hwr : wrap64 ((i : Int) - 1) = (i : Int) - 1 := by unfold wrap64; omega
    have hd : dbl (l.drop i).reverse = dbl (l.drop (i + 1)).reverse ++ [l[i], l[i]] := by
      rw [List.drop_eq_getElem_cons hil, List.reverse_cons]
      unfold dbl
      rw [List.flatMap_append]
      rfl
    rw [show k + (i + 1) = (k + i) + 1 by omega]
    conv => lhs; unfold graftwoodlaw19_WhyMore.l0
    rw [e1, if_pos (by omega), if_pos (by omega), if_pos (by omega), rd_needs hil]
    simp only [Option.bind_some]
    rw [if_pos (by simp only [List.length_cons, List.length_nil]; omega), hwr, ← ih k (by omega), hd]
theorem more_j2 (m : List S34) (c : List S24) (B : List S34) (d : List S24) (g : Int) (a b : ByteArray) (k : Nat) (x : Bool) (hk : 3000 ≤ k) (hB : (B ++ m).length ≤ 100) (hb : ∀ e ∈ B ++ m, Brief e.f0 ∧ Brief e.f1) (bt : Brief ⟨a, b⟩)
    (ht : x = true → g = 1 → ¬ (okE (B ++ m) = true ∧ mayN ⟨a, b⟩ = true)) (hf : x = false → g = 0 ∧ d.length ≤ c.length) : graftwoodlaw19_WhyMore.j2 k m c B d g x a b = some true := by
  obtain ⟨j, rfl⟩ : ∃ j, k = j + 1 := ⟨k - 1, by omega⟩
  have hlen : B.length + m.length ≤ 100 := by rw [← List.length_append]; exact hB
  simp only [graftwoodlaw19_WhyMore.j2]
  cases x with
  | false =>
    obtain ⟨h1, h2⟩ := hf rfl
    rw [if_neg (by decide), if_pos h1, if_pos (by omega), awake19_val]
    rfl
  | true =>
    rw [if_pos rfl]
    by_cases hg : g = 1
    · rw [if_pos hg, if_pos (by omega), ref18May_val _ (by omega) hb j (by omega), ref5May_val j ⟨a, b⟩ bt (by omega), awake19_val]
      have h9 := ht rfl hg
      simp only [Option.bind_some]
      cases h1 : okE (B ++ m) with
      | false => rw [if_neg (by decide)]
      | true =>
        rw [if_pos rfl]
        cases h2 : mayN (⟨a, b⟩ : S24) with
        | false => rw [if_neg (by decide)]
        | true => exact absurd ⟨h1, h2⟩ h9
    · rw [if_neg hg, awake19_val]
      rfl
theorem more_K (K : Nat) (hK : 3800 ≤ K) (l m : List S34) (a b : ByteArray) : graftwoodlaw19_WhyMore.f K l m a b = some true := by
  unfold graftwoodlaw19_WhyMore.f
  rw [fewE_val l _ (by omega), fewE_val m _ (by omega), One_val]
  simp only [Option.bind_some]
  have hl := fewE_len l
  have hb := fewE_brief l
  have hl2 := fewE_len m
  have hb2 := fewE_brief m
  have bt : Brief ⟨few a, few b⟩ := ⟨few_size a, few_size b⟩
  generalize fewE l = l' at *
  generalize fewE m = m' at *
  generalize few a = a' at *
  generalize few b = b' at *
  clear l m a b
  have hB : (dbl l'.reverse).length ≤ 60 := by rw [dbl_len, List.length_reverse]; omega
  have hmem := mem_dbl l'
  have hbB : ∀ e ∈ dbl l'.reverse, Brief e.f0 ∧ Brief e.f1 := fun e he => hb e ((hmem e).2 he)
  have hbA : ∀ e ∈ dbl l'.reverse ++ m', Brief e.f0 ∧ Brief e.f1 := fun e he => (List.mem_append.1 he).elim (hbB e) (hb2 e)
  have hA : (dbl l'.reverse ++ m').length ≤ 100 := by rw [List.length_append]; omega
  have hsame := chain_same hmem (by omega) (by omega) hb ⟨a', b'⟩ bt
  have hst : ∀ (c : List S24) (e : Int), graftwoodlaw19_WhyMore.l0 K l' m' c e ([] : List S34) (wrap64 ((l'.length : Int) - 1)) a' b' = graftwoodlaw19_WhyMore.l0 (K - l'.length) l' m' c e (dbl l'.reverse) (-1) a' b' := by
    intro c e
    have h9 := more_l0 l' m' hl c e a' b' l'.length (K - l'.length) (Nat.le_refl _)
    rw [List.drop_length, show K - l'.length + l'.length = K by omega] at h9
    rw [show wrap64 ((l'.length : Int) - 1) = (l'.length : Int) - 1 by unfold wrap64; omega]
    exact h9
  obtain ⟨j, hj⟩ : ∃ j, K - l'.length = (j + 1) + 1 := ⟨K - 2 - l'.length, by omega⟩
  rw [hj] at hst
  simp only [] at hsame
  have main : ∀ (c : List S24) (e : Int), why_Chain.f l' a' b' = some (c, e) → c.length ≤ 60 → (∀ d g, why_Chain.f (dbl l'.reverse ++ m') a' b' = some (d, g) → (g = 1 → ¬ (okE (dbl l'.reverse ++ m') = true ∧ mayN ⟨a', b'⟩ = true)) ∧ (e = 0 → g ≠ 1 → g = 0 ∧ d.length ≤ c.length)) →
      graftwoodlaw19_WhyMore.l0 K l' m' c e ([] : List S34) (wrap64 ((l'.length : Int) - 1)) a' b' = some true := by
    intro c e hce hcl hmore
    rw [hst]
    conv => lhs; unfold graftwoodlaw19_WhyMore.l0
    rw [if_neg (by omega), hsame, hce]
    simp only [Option.bind_some]
    rw [if_pos trivial, same_val c c (by omega) _ (by omega), decide_eq_true rfl]
    simp only [Option.bind_some, Bool.not_true]
    simp only [graftwoodlaw19_WhyMore.j1]
    rw [if_neg (by decide), if_pos (by omega)]
    obtain ⟨d, g, hdg⟩ : ∃ d g, why_Chain.f (dbl l'.reverse ++ m') a' b' = some (d, g) := by
      rcases chain_cases (by omega) hbA ⟨a', b'⟩ bt with ⟨g1, _⟩ | ⟨g1, _⟩ | ⟨out', c', g1, _⟩
      · exact ⟨_, _, g1⟩
      · exact ⟨_, _, g1⟩
      · exact ⟨_, _, g1⟩
    obtain ⟨h1, h2⟩ := hmore d g hdg
    rw [hdg]
    simp only [Option.bind_some]
    by_cases he : e = 0
    · rw [if_pos he]
      refine more_j2 m' c _ d g a' b' j _ (by omega) hA hbA bt (fun _ => h1) (fun hx => h2 he (fun e1 => ?_))
      rw [e1] at hx
      cases hx
    · rw [if_neg he]
      exact more_j2 m' c _ d g a' b' j _ (by omega) hA hbA bt (fun _ => h1) (fun hx => by cases hx)
  rcases chain_cases (by omega) hb ⟨a', b'⟩ bt with ⟨h, h1⟩ | ⟨h, h1, h2, h3⟩ | ⟨out, c, h, hok, hm, hout, hc, hd, hcl, hcb⟩
  · simp only [] at h
    rw [h]
    simp only [Option.bind_some]
    refine main _ _ h (by simp) (fun d g hdg => ⟨fun hg => ?_, fun e => by cases e⟩)
    rcases chain_cases (by omega) hbA ⟨a', b'⟩ bt with ⟨g1, g2⟩ | ⟨g1, _⟩ | ⟨out', c', g1, _⟩
    · exact g2
    · simp only [] at g1; rw [hdg] at g1; injection g1 with g1; injection g1 with _ g1; rw [hg] at g1; cases g1
    · simp only [] at g1; rw [hdg] at g1; injection g1 with g1; injection g1 with _ g1; rw [hg] at g1; cases g1
  · simp only [] at h
    rw [h]
    simp only [Option.bind_some]
    refine main _ _ h (by simp) (fun d g hdg => ⟨fun hg => ?_, fun e => by cases e⟩)
    rcases chain_cases (by omega) hbA ⟨a', b'⟩ bt with ⟨g1, g2⟩ | ⟨g1, _⟩ | ⟨out', c', g1, _⟩
    · exact g2
    · simp only [] at g1; rw [hdg] at g1; injection g1 with g1; injection g1 with _ g1; rw [hg] at g1; cases g1
    · simp only [] at g1; rw [hdg] at g1; injection g1 with g1; injection g1 with _ g1; rw [hg] at g1; cases g1
  · simp only [] at h
    rw [h]
    simp only [Option.bind_some]
    refine main _ _ h (by omega) (fun d g hdg => ?_)
    rcases chain_cases (by omega) hbA ⟨a', b'⟩ bt with ⟨g1, g2⟩ | ⟨g1, g2, g3, g4⟩ | ⟨out', c', g1, g2, g3, gout, gc, gd, _⟩
    · simp only [] at g1
      rw [hdg] at g1
      injection g1 with g1
      injection g1 with _ g1
      exact ⟨fun _ => g2, fun _ h9 => absurd g1 h9⟩
    · exfalso
      have hr := reach_more (m := dbl l'.reverse ++ m') (fun e he => List.mem_append_left _ ((hmem e).1 he)) _ _ hd.1
      obtain ⟨n', _, hdn⟩ := reach_dist _ hr
      cases n' with
      | zero =>
        have h9 : (⟨a', b'⟩ : S24) = z24 := hdn.1
        rw [h9, may_z] at g3
        cases g3
      | succ n' => exact g4 n' hdn
    · have hr := reach_more (m := dbl l'.reverse ++ m') (fun e he => List.mem_append_left _ ((hmem e).1 he)) _ _ hd.1
      obtain ⟨n', hn', hdn⟩ := reach_dist _ hr
      have hu := dist_uniq hdn gd
      simp only [] at g1
      rw [hdg] at g1
      injection g1 with g1
      injection g1 with g0 g1
      refine ⟨fun hg => ?_, fun _ _ => ⟨g1, by rw [g0]; omega⟩⟩
      rw [hg] at g1
      cases g1
theorem more_true (l m : List S34) (a b : ByteArray) : graftwoodlaw19_WhyMore.f 4000 l m a b = some true := more_K 4000 (by decide) l m a b
end Go.Proofs.YtodkjmbmlobihaaDoor.Q
end
