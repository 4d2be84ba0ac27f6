/- Part 11 of this claim: several texts one behind the other: PureKOrder. What each shows stands in its theorems; conditions: sizes of texts and lists, as the functions' definitions say. -/
import Derived.Test.YtffcbfclpfchnaaDoorMLackOrder9
import Derived.Test.YtffcbfclpfchnaaDoorMLackOrder10
import Derived.Test.YtffcbfclpfchnaaDoorMLackOrder6
import Derived.Test.YtffcbfclpfchnaaDoorMLackOrder7
import Derived.Test.YtffcbfclpfchnaaDoorMLackOrder5
section
namespace Go.Proofs.YtffcbfclpfchnaaDoor.Q
open Go.Proofs.YtffcbfclpfchnaaDoor.QB.D
open Go Go.RowKit Go.Lib Go.Proofs.YtffcbfclpfchnaaDoorW.PrintWords Go.Proofs.YtffcbfclpfchnaaDoorW.PrintLast Go.Proofs.YtffcbfclpfchnaaDoorW.PrintMore Gw
set_option linter.unusedVariables false
set_option linter.unusedSimpArgs false
theorem few_idem (s : ByteArray) : few (few s) = few s := by
  have h := few_size s
  generalize hs : few s = t at h ⊢
  unfold few
  rw [if_neg (by omega)]
theorem oneE_idem (x : S33) : oneE (oneE x) = oneE x := by
  unfold oneE oneN
  simp only [few_idem]
theorem fewE_idem (l : List S33) : fewE (fewE l) = fewE l := by
  have h := fewE_len l
  have e : (fewE l).take 30 = fewE l := List.take_of_length_le h
  show ((fewE l).take 30).map oneE = fewE l
  rw [e]
  unfold fewE
  rw [List.map_map]
  exact List.map_congr_left fun x _ => oneE_idem x
theorem order_l0 (a b : List S31) (l : List S33) (hl : l.length ≤ 30) (o : List S37) (e : Int) : ∀ (i k : Nat), i ≤ l.length → graftwoodlaw18_LackOrder.l0 (k + i) a b l o e (dbl (l.drop i).reverse) ((i : Int) - 1) = graftwoodlaw18_LackOrder.l0 k a b l o e (dbl l.reverse) (-1) := by
  intro i
  induction i with
  | zero => intro k _; rfl
  | succ i ih =>
    intro k hi
    have hil : i < l.length := by omega
    have e1 : ((i + 1 : Nat) : Int) - 1 = (i : Int) := by omega
    have hlen : (dbl (l.drop (i + 1)).reverse).length ≤ 60 := by rw [dbl_len, List.length_reverse, List.length_drop]; omega
    have hwr : wrap64 ((i : Int) - 1) = (i : Int) - 1 := by unfold wrap64; omega
    have hd : dbl (l.drop i).reverse = dbl (l.drop (i + 1)).reverse ++ [l[i], l[i]] := by
      rw [List.drop_eq_getElem_cons hil, List.reverse_cons]
      unfold dbl
      rw [List.flatMap_append]
      rfl
    rw [show k + (i + 1) = (k + i) + 1 by omega]
    conv => lhs; unfold graftwoodlaw18_LackOrder.l0
    rw [e1, if_pos (by omega), if_pos (by omega), if_pos (by omega), rd_needs hil]
    simp only [Option.bind_some]
    rw [if_pos (by simp only [List.length_cons, List.length_nil]; omega), hwr, ← ih k (by omega), hd]
theorem order_j1 (a b : List S31) (l : List S33) (ha : a.length ≤ 24) (hb : b.length ≤ 24) (hl : l.length ≤ 30) (fa : ∀ x ∈ a, Brief x) (fb : ∀ x ∈ b, Brief x) (fl : ∀ e ∈ l, Brief e.f0 ∧ Brief e.f1) (hf : fewE l = l)
    (ca : checkN a = true) (cb : checkN b = true) (hok : okE l = true) (k : Nat) (hk : 140000 ≤ k) : graftwoodlaw18_LackOrder.j1 k a b l (ofF a b l) (ofF a b l) (((ofF a b l).length : Int) == 0) = some true := by
  obtain ⟨j, rfl⟩ : ∃ j, k = j + 1 := ⟨k - 1, by omega⟩
  have hol : (ofF a b l).length ≤ 24 := by rw [ofF_len]; exact Nat.le_trans (goneF_len a b) ha
  have hby := ofF_by a b l
  simp only [graftwoodlaw18_LackOrder.j1]
  rw [same18_self _ (by omega) (fun x hx => Nat.le_trans (hby x hx) (by omega)) j (by omega), awake18_val, fewE_val l j (by omega), hf]
  simp only [Option.bind_some]
  cases hg : goneF a b with
  | nil =>
    have e : ofF a b l = [] := by unfold ofF; rw [hg]; rfl
    rw [e]
    rfl
  | cons n r =>
    have hset : IsSet (goneF a b) := goneF_set b ((check_set (fun x hx => (fa x hx).tiny)).1 ca)
    rw [hg] at hset
    have hn : n ∈ goneF a b := by rw [hg]; exact List.mem_cons_self
    have hna := (mem_goneF.1 hn).1
    have hmn : mayN n = true := hset.may n List.mem_cons_self
    have hnd := List.nodup_cons.1 hset.nodup
    have e : ofF a b l = lackOf a l n :: r.map (lackOf a l) := by unfold ofF; rw [hg]; rfl
    have e2 : ofF a b (l ++ [⟨z31, n⟩]) = ⟨n, (lackOf a l n).f1, true⟩ :: r.map (lackOf a l) := by
      unfold ofF
      rw [hg, List.map_cons, lackOf_root]
      refine congrArg _ (List.map_congr_left fun m hm => lackOf_other a l m n (fun h => ?_))
      subst h
      exact hnd.1 hm
    have bz : Brief z31 := by unfold Brief; decide +kernel
    have hv := lackOf_val a b (l ++ [⟨z31, n⟩]) (by omega) (by omega) (by simp; omega) fa fb (fun x hx => by
      rcases List.mem_append.1 hx with h | h
      · exact fl x h
      · rw [List.mem_singleton] at h
        subst h
        exact ⟨bz, fa n hna⟩)
    rw [if_pos ⟨ca, cb, okE_root l n hok hmn⟩, e2] at hv
    have hrl : (r.map (lackOf a l)).length ≤ 24 := by rw [e] at hol; simp only [List.length_cons] at hol; omega
    have hrb : ∀ x ∈ r.map (lackOf a l), x.f1.length ≤ 65536 := fun x hx => Nat.le_trans (hby x (by rw [e]; exact List.mem_cons_of_mem _ hx)) (by omega)
    have hs1 := same18_self (r.map (lackOf a l)) (by omega) hrb j (by omega)
    have hs2 := same_val (lackOf a l n).f1 (lackOf a l n).f1 (by have := lackBy_len a l n; omega) j (by have := lackBy_len a l n; omega)
    rw [decide_eq_true rfl] at hs2
    rw [e]
    have hr0 : rd_T37 (lackOf a l n :: r.map (lackOf a l)) 0 = lackOf a l n := rfl
    have hr1 : rd_T37 ((⟨n, (lackOf a l n).f1, true⟩ : S37) :: r.map (lackOf a l)) 0 = ⟨n, (lackOf a l n).f1, true⟩ := rfl
    have hz : (((lackOf a l n :: r.map (lackOf a l)).length : Int) == 0) = false := by rw [beq_eq_false_iff_ne]; simp only [List.length_cons]; omega
    rw [hz, if_neg (by decide), if_pos (by simp only [List.length_cons]; omega), hr0, if_pos (by simp only [List.length_append, List.length_cons, List.length_nil]; omega)]
    rw [show (⟨⟨⟨#[]⟩, ⟨#[]⟩⟩, ⟨(lackOf a l n).f0.f0, (lackOf a l n).f0.f1⟩⟩ : S33) = ⟨z31, n⟩ from rfl, hv]
    simp only [Option.bind_some]
    rw [if_pos trivial, if_pos (by simp only [List.length_cons]), if_pos (by simp only [List.length_cons]; omega), hr1, if_pos rfl, hs2]
    simp only [Option.bind_some]
    rw [if_pos trivial, if_pos (by simp only [List.length_cons]; omega), if_pos (by simp only [List.length_cons]; omega)]
    simp only [List.drop_succ_cons, List.drop_zero]
    rw [hs1]
    rfl
theorem lackOrder_true (live keys : List S31) (l : List S33) : graftwoodlaw18_LackOrder.f 150000 live keys l = some true := by
  unfold graftwoodlaw18_LackOrder.f
  rw [fewN_val live _ (by omega), fewN_val keys _ (by omega), fewE_val l _ (by omega)]
  simp only [Option.bind_some]
  have ha := fewN_len live
  have hb := fewN_len keys
  have hl := fewE_len l
  have fa := fewN_brief live
  have fb := fewN_brief keys
  have fl := fewE_brief l
  have hf := fewE_idem l
  generalize fewN live = a at *
  generalize fewN keys = b at *
  generalize fewE l = m at *
  rw [lackOf_val a b m (by omega) (by omega) (by omega) fa fb fl]
  simp only [Option.bind_some]
  have hd : dbl (m.drop m.length).reverse = [] := by rw [List.drop_length]; rfl
  have hwr : wrap64 ((m.length : Int) - 1) = (m.length : Int) - 1 := by unfold wrap64; omega
  have hmem : ∀ e, e ∈ m ↔ e ∈ dbl m.reverse := mem_dbl m
  have hdl : (dbl m.reverse).length ≤ 60 := by rw [dbl_len, List.length_reverse]; omega
  have hv := lackOf_val a b (dbl m.reverse) (by omega) (by omega) (by omega) fa fb (fun e he => fl e ((hmem e).2 he))
  rw [← okE_same hmem] at hv
  obtain ⟨k, hk⟩ : ∃ k, 150000 = k + 1 + m.length := ⟨149999 - m.length, by omega⟩
  have h0 : ∀ (o : List S37) (e : Int), graftwoodlaw18_LackOrder.l0 150000 a b m o e [] (wrap64 ((m.length : Int) - 1)) = graftwoodlaw18_LackOrder.l0 (k + 1) a b m o e (dbl m.reverse) (-1) := fun o e => by
    rw [hwr, hk, ← hd]
    exact order_l0 a b m hl o e m.length (k + 1) (Nat.le_refl _)
  rw [h0]
  simp only [graftwoodlaw18_LackOrder.l0]
  rw [if_neg (by decide), hv]
  simp only [Option.bind_some]
  by_cases hc : checkN a = true ∧ checkN b = true ∧ okE m = true
  · rw [if_pos hc, if_pos hc]
    have hof := ofF_same a b hmem fl hc.2.2
    have hol : (ofF a b m).length ≤ 24 := by rw [ofF_len]; exact Nat.le_trans (goneF_len a b) ha
    have hby := ofF_by a b m
    rw [← hof, if_pos rfl, if_pos rfl, same18_self _ (by omega) (fun x hx => Nat.le_trans (hby x hx) (by omega)) k (by omega)]
    simp only [Option.bind_some]
    rw [if_pos trivial]
    exact order_j1 a b m ha hb hl fa fb fl hf hc.1 hc.2.1 hc.2.2 k (by omega)
  · rw [if_neg hc, if_neg hc, if_pos rfl, if_neg (by decide), if_pos (by rfl), if_pos (by rfl), awake18_val]
    rfl
end Go.Proofs.YtffcbfclpfchnaaDoor.Q
end
