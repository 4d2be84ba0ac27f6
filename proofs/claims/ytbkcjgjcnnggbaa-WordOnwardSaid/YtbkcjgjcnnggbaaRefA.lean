/- The references of layers 1 to 4 (parts of a text, classes, numbers, words, elements): what their printed functions answer, as plain functions on lists of octets, with rounds enough. Conditions: texts of at most 2^42 octets. -/
import Derived.Test.YtbkcjgjcnnggbaaQ3
import Derived.Test.YtbkcjgjcnnggbaaPlainA
namespace Go.Proofs.Ytbkcjgjcnnggbaa.Q
open Go.RowKit Go.Proofs.YtbkcjgjcnnggbaaW.PrintWords Go.Proofs.YtbkcjgjcnnggbaaW.PrintLast Go.Proofs.YtbkcjgjcnnggbaaW.PrintMore Gw
set_option linter.unusedVariables false
set_option linter.unusedSimpArgs false

def bs (s : ByteArray) : List Nat := s.data.toList.map UInt8.toNat
def ofB (l : List Nat) : ByteArray := ⟨(l.map UInt8.ofNat).toArray⟩
theorem bs_length (s : ByteArray) : (bs s).length = s.size := by simp [bs]
theorem bs_oct (s : ByteArray) : ∀ c ∈ bs s, c < 256 := by
  intro c hc
  simp only [bs, List.mem_map] at hc
  obtain ⟨x, _, rfl⟩ := hc
  exact x.toNat_lt
theorem bs_inj {s t : ByteArray} (h : bs s = bs t) : s = t := by
  have h2 : s.data.toList = t.data.toList := by
    refine List.map_inj_right (f := UInt8.toNat) ?_ |>.1 h
    intro a b hab
    exact UInt8.toNat_inj.1 hab
  cases s; cases t; simp only [ByteArray.mk.injEq]; exact Array.toList_inj.1 h2
theorem bs_ofB {l : List Nat} (h : ∀ c ∈ l, c < 256) : bs (ofB l) = l := by
  simp only [bs, ofB, List.map_map]
  refine (List.map_congr_left fun c hc => ?_).trans (List.map_id _)
  simp [UInt8.toNat_ofNat, Nat.mod_eq_of_lt (h c hc)]
theorem ofB_bs (s : ByteArray) : ofB (bs s) = s := bs_inj (bs_ofB (bs_oct s))
theorem bs_extract (s : ByteArray) (i j : Nat) : bs (s.extract i j) = ((bs s).take j).drop i := by
  simp only [bs, ByteArray.data_extract, Array.toList_extract, List.extract_eq_take_drop, List.map_take, List.map_drop]
  rw [List.drop_take]
theorem bs_append (s t : ByteArray) : bs (s ++ t) = bs s ++ bs t := by simp [bs]
theorem bt_drop {s : ByteArray} {i c : Nat} {r : List Nat} (h : (bs s).drop i = c :: r) : i < s.size ∧ bt s (i : Int) = (c : Int) ∧ (bs s).drop (i + 1) = r ∧ c < 256 := by
  have hl : i < (bs s).length := by
    rcases Nat.lt_or_ge i (bs s).length with h1 | h1
    · exact h1
    · rw [List.drop_eq_nil_of_le h1] at h; cases h
  rw [List.drop_eq_getElem_cons hl] at h
  injection h with h1 h2
  rw [bs_length] at hl
  refine ⟨hl, ?_, h2, ?_⟩
  · unfold bt
    simp only [Int.toNat_natCast, dif_pos hl]
    rw [← h1]
    simp [bs]
    rfl
  · rw [← h1]; exact bs_oct s _ (List.getElem_mem _)
theorem drop_nil {s : ByteArray} {i : Nat} (h : (bs s).drop i = []) (hi : i ≤ s.size) : i = s.size := by
  have := List.drop_eq_nil_iff.1 h
  rw [bs_length] at this
  omega
theorem w1 {i n : Nat} (h : i < n) (hn : n ≤ 4398046511104) : wrap64 ((i : Int) + 1) = ((i + 1 : Nat) : Int) := by
  unfold wrap64; omega
abbrev Small (s : ByteArray) : Prop := s.size ≤ 4398046511104

def cls (c : Nat) : Nat := if dig c then 1 else if let_ c then 2 else if c = 45 ∨ c = 46 ∨ c = 95 ∨ c = 126 then 3 else if c = 47 then 4 else if c = 32 ∨ c = 9 then 5 else if c = 10 then 6 else if c = 34 then 7 else if c = 40 then 8 else if c = 41 then 9 else 0
theorem Class_fin : ∀ c < 256, graftwoodref01_Class.f 5 (c : Nat) = some (cls c : Nat) := by decide +kernel
theorem Class_tot (c : Nat) (h : c < 256) (k : Nat) (hk : 5 ≤ k) : graftwoodref01_Class.f k (c : Int) = some ((cls c : Nat) : Int) := at_rounds (graftwoodref01_Class.mono _) hk (Class_fin c h)
theorem cls_dig : ∀ c < 256, (cls c = 1 ↔ dig c = true) := by decide +kernel
theorem cls_let : ∀ c < 256, (cls c = 2 ↔ let_ c = true) := by decide +kernel
theorem cls_elem : ∀ c < 256, ((1 ≤ cls c ∧ cls c ≤ 3) ↔ (inner c || c == 46) = true) := by decide +kernel

def glue (cur : List Nat) : List (List Nat) → List (List Nat)
  | [] => [cur]
  | p :: ps => (cur ++ p) :: ps
theorem cur_snoc {l : List Nat} {f i c : Nat} {r : List Nat} (h : l.drop i = c :: r) (hf : f ≤ i) : (l.take (i + 1)).drop f = (l.take i).drop f ++ [c] := by
  have hl : i < l.length := by
    rcases Nat.lt_or_ge i l.length with h1 | h1
    · exact h1
    · rw [List.drop_eq_nil_of_le h1] at h; cases h
  rw [List.drop_eq_getElem_cons hl] at h
  injection h with h1 h2
  rw [List.take_succ_eq_append_getElem hl, List.drop_append_of_le_length (by rw [List.length_take]; omega), h1]
theorem ext_ofB (s : ByteArray) (f i : Nat) : s.extract f i = ofB (((bs s).take i).drop f) := by rw [← bs_extract, ofB_bs]
theorem Parts_l0 (s : ByteArray) (hs : Small s) (sep : Nat) : ∀ (r : List Nat) (i f k : Nat) (acc : List ByteArray), (bs s).drop i = r → i ≤ s.size → f ≤ i → acc.length ≤ i → r.length < k →
    graftwoodref01_Parts.l0 k s (sep : Int) acc (f : Int) (i : Int) = some (acc ++ (glue (((bs s).take i).drop f) (parts sep r)).map ofB)
  | [], i, f, k, acc, hr, hi, hf, ha, hk => by
    have e := drop_nil hr hi
    unfold Small at hs
    obtain ⟨k, rfl⟩ : ∃ m, k = m + 1 := ⟨k - 1, by simp at hk; omega⟩
    simp only [graftwoodref01_Parts.l0]
    rw [if_neg (by omega), if_pos (by omega), if_pos (by omega), if_pos (by omega), Int.toNat_natCast, ext_ofB, e]
    simp [parts, glue]
  | c :: r, i, f, k, acc, hr, hi, hf, ha, hk => by
    obtain ⟨h1, h2, h3, h4⟩ := bt_drop hr
    obtain ⟨p, ps, hp⟩ := parts_cons sep r
    have hw := w1 h1 hs
    unfold Small at hs
    obtain ⟨k, rfl⟩ : ∃ m, k = m + 1 := ⟨k - 1, by simp at hk; omega⟩
    simp only [List.length_cons] at hk
    simp only [graftwoodref01_Parts.l0]
    rw [if_pos (by omega), if_pos (by omega), h2]
    by_cases hc : c = sep
    · rw [if_pos (by omega), if_pos (by omega), if_pos (by omega), if_pos (by omega), if_pos (by omega), hw, Int.toNat_natCast, Int.toNat_natCast, ext_ofB,
        Parts_l0 s hs sep r (i + 1) (i + 1) k _ h3 (by omega) (by omega) (by simp; omega) (by omega), hc, parts_sep, hp]
      have e0 : ((bs s).take (i + 1)).drop (i + 1) = [] := List.drop_eq_nil_of_le (by rw [List.length_take]; omega)
      rw [e0]
      simp [glue]
    · rw [if_neg (by omega), hw, Parts_l0 s hs sep r (i + 1) f k _ h3 (by omega) (by omega) (by omega) (by omega), parts_other hc hp, hp, cur_snoc hr hf]
      simp [glue]
theorem Parts_tot (s : ByteArray) (hs : Small s) (sep k : Nat) (hk : s.size < k) : graftwoodref01_Parts.f k s (sep : Int) = some ((parts sep (bs s)).map ofB) := by
  unfold graftwoodref01_Parts.f
  have := Parts_l0 s hs sep (bs s) 0 0 k [] rfl (Nat.zero_le _) (Nat.le_refl _) (Nat.le_refl _) (by rw [bs_length]; exact hk)
  rw [show ((0 : Int)) = ((0 : Nat) : Int) from rfl, this]
  obtain ⟨p, ps, hp⟩ := parts_cons sep (bs s)
  simp [hp, glue]
theorem parts_oct {sep : Nat} : ∀ {s : List Nat}, (∀ c ∈ s, c < 256) → ∀ p ∈ parts sep s, ∀ c ∈ p, c < 256
  | [], _, p, hp, c, hc => by simp [parts] at hp; subst hp; cases hc
  | x :: r, h, p, hp, c, hc => by
    obtain ⟨q, qs, hq⟩ := parts_cons sep r
    have ih := parts_oct (sep := sep) (s := r) (fun c hc => h c (List.mem_cons_of_mem _ hc))
    by_cases hx : x = sep
    · subst hx
      rw [parts_sep, List.mem_cons] at hp
      rcases hp with rfl | hp
      · cases hc
      · exact ih p hp c hc
    · rw [parts_other hx hq, List.mem_cons] at hp
      rw [hq] at ih
      rcases hp with rfl | hp
      · rcases List.mem_cons.1 hc with rfl | hc
        · exact h _ List.mem_cons_self
        · exact ih q List.mem_cons_self c hc
      · exact ih p (List.mem_cons_of_mem _ hp) c hc
theorem parts_le {sep : Nat} : ∀ (s : List Nat), (∀ p ∈ parts sep s, p.length ≤ s.length) ∧ (parts sep s).length ≤ s.length + 1
  | [] => by simp [parts]
  | x :: r => by
    obtain ⟨q, qs, hq⟩ := parts_cons sep r
    obtain ⟨ih, il⟩ := parts_le (sep := sep) r
    by_cases hx : x = sep
    · subst hx
      rw [parts_sep]
      refine ⟨fun p hp => ?_, by simp; omega⟩
      rcases List.mem_cons.1 hp with rfl | hp
      · simp
      · have := ih p hp; simp; omega
    · rw [parts_other hx hq]
      rw [hq] at ih il
      refine ⟨fun p hp => ?_, by simp at il ⊢; omega⟩
      rcases List.mem_cons.1 hp with rfl | hp
      · have := ih q List.mem_cons_self; simp; omega
      · have := ih p (List.mem_cons_of_mem _ hp); simp; omega

/-! Elements. -/
theorem Element_l0 (s : ByteArray) (hs : Small s) : ∀ (r : List Nat) (i k : Nat), (bs s).drop i = r → i ≤ s.size → r.length + 5 < k →
    graftwoodref04_Element.l0 k s (i : Int) = some (r.all fun c => inner c || c == 46)
  | [], i, k, hr, hi, hk => by
    have e := drop_nil hr hi
    obtain ⟨k, rfl⟩ : ∃ m, k = m + 1 := ⟨k - 1, by omega⟩
    simp only [graftwoodref04_Element.l0]
    rw [if_neg (by omega)]
    rfl
  | c :: r, i, k, hr, hi, hk => by
    obtain ⟨h1, h2, h3, h4⟩ := bt_drop hr
    have hw := w1 h1 hs
    obtain ⟨k, rfl⟩ : ∃ m, k = m + 1 := ⟨k - 1, by omega⟩
    simp only [List.length_cons] at hk
    simp only [graftwoodref04_Element.l0]
    rw [if_pos (by omega), if_pos (by omega), h2, Class_tot c h4 k (by omega)]
    simp only [Option.bind_some]
    have he := cls_elem c h4
    by_cases hc : (inner c || c == 46) = true
    · have hh := he.2 hc
      rw [if_neg (by omega), if_neg (by omega), hw, Element_l0 s hs r (i + 1) k h3 (by omega) (by omega), List.all_cons, hc, Bool.true_and]
    · have hn : ¬(1 ≤ cls c ∧ cls c ≤ 3) := fun h => hc (he.1 h)
      rw [List.all_cons, Bool.eq_false_iff.2 hc, Bool.false_and]
      by_cases hl : ((cls c : Nat) : Int) < 1
      · rw [if_pos hl]
      · rw [if_neg hl, if_pos (by omega)]
theorem bt_at_get (s : ByteArray) (i : Nat) (h : i < s.size) : bt s (i : Int) = (((bs s)[i]'(by rw [bs_length]; exact h) : Nat) : Int) := by
  have hd : (bs s).drop i = (bs s)[i]'(by rw [bs_length]; exact h) :: (bs s).drop (i + 1) := List.drop_eq_getElem_cons _
  exact (bt_drop hd).2.1
theorem Element_tot (s : ByteArray) (hs : Small s) (k : Nat) (hk : s.size + 7 < k) : graftwoodref04_Element.f k s = some (isElem (bs s)) := by
  obtain ⟨k, rfl⟩ : ∃ m, k = m + 1 := ⟨k - 1, by omega⟩
  have hl := Element_l0 s hs (bs s) 0 k rfl (Nat.zero_le _) (by rw [bs_length]; omega)
  unfold graftwoodref04_Element.f
  cases hb : bs s with
  | nil =>
    have h0 : s.size = 0 := by rw [← bs_length, hb]; rfl
    rw [if_pos (by omega)]
    simp [graftwoodref04_Element.j0, isElem]
  | cons c r =>
    have h0 : s.size = r.length + 1 := by rw [← bs_length, hb]; rfl
    have hlast : bt s ((s.size - 1 : Nat) : Int) = ((c :: r).getLast (by simp) : Nat) := by
      rw [bt_at_get s (s.size - 1) (by omega)]
      congr 1
      rw [List.getLast_eq_getElem]
      simp only [hb, h0, List.length_cons]
    have hw : wrap64 ((s.size : Int) - 1) = ((s.size - 1 : Nat) : Int) := by unfold Small at hs; unfold wrap64; omega
    rw [if_neg (by omega), if_pos (by omega)]
    have hd : (bs s).drop 0 = c :: r := by simpa using hb
    have hc := (bt_drop hd).2.1
    rw [show ((0 : Nat) : Int) = 0 from rfl] at hc
    rw [hc, hw, hlast]
    rw [hb] at hl
    by_cases h46 : c = 46
    · rw [if_pos (by omega)]
      simp [graftwoodref04_Element.j0, isElem, h46]
    · rw [if_neg (by omega), if_pos (by omega), if_pos (by omega)]
      rw [show ((0 : Nat) : Int) = 0 from rfl] at hl
      simp only [graftwoodref04_Element.j0, hl]
      unfold isElem
      by_cases hq : (c :: r).getLast (by simp) = 46
      · rw [hq]; simp [List.getLast?_eq_some_getLast, hq]
      · have : (((c :: r).getLast (by simp) : Nat) : Int) ≠ 46 := by omega
        simp [List.getLast?_eq_some_getLast, hq, this, h46]
theorem rdOf_nat {l : List ByteArray} {i : Nat} {x : ByteArray} {r : List ByteArray} (h : l.drop i = x :: r) : i < l.length ∧ rdOf ByteArray.empty l (i : Int) = x ∧ l.drop (i + 1) = r := by
  have hl : i < l.length := by
    rcases Nat.lt_or_ge i l.length with h1 | h1
    · exact h1
    · rw [List.drop_eq_nil_of_le h1] at h; cases h
  rw [List.drop_eq_getElem_cons hl] at h
  injection h with h1 h2
  refine ⟨hl, ?_, h2⟩
  simp [rdOf, List.getD_eq_getElem?_getD, List.getElem?_eq_getElem hl, h1]
theorem wl {i n : Nat} (h : i < n) (hn : n ≤ 8796093022208) : wrap64 ((i : Int) + 1) = ((i + 1 : Nat) : Int) := by
  unfold wrap64; omega
theorem ref4May_l0 (l : List ByteArray) (B : Nat) (hl : l.length ≤ 8796093022208) (hs : ∀ x ∈ l, Small x ∧ x.size ≤ B) : ∀ (r : List ByteArray) (i k : Nat), l.drop i = r → i ≤ l.length → r.length + B + 8 < k →
    graftwoodref04_May.l0 k l (i : Int) = some (r.all fun x => isElem (bs x))
  | [], i, k, hr, hi, hk => by
    have := List.drop_eq_nil_iff.1 hr
    obtain ⟨k, rfl⟩ : ∃ m, k = m + 1 := ⟨k - 1, by omega⟩
    simp only [graftwoodref04_May.l0]
    rw [if_neg (by omega)]
    rfl
  | x :: r, i, k, hr, hi, hk => by
    obtain ⟨h1, h2, h3⟩ := rdOf_nat hr
    have hx := hs x (List.mem_of_mem_drop (i := i) (by rw [hr]; exact List.mem_cons_self))
    have hw := wl h1 hl
    obtain ⟨k, rfl⟩ : ∃ m, k = m + 1 := ⟨k - 1, by omega⟩
    simp only [List.length_cons] at hk
    simp only [graftwoodref04_May.l0]
    rw [if_pos (by omega), if_pos (by omega), h2, Element_tot x hx.1 k (by omega)]
    simp only [Option.bind_some]
    by_cases hc : isElem (bs x) = true
    · rw [if_pos hc, hw, ref4May_l0 l B hl hs r (i + 1) k h3 (by omega) (by omega), List.all_cons, hc, Bool.true_and]
    · rw [if_neg hc, List.all_cons, Bool.eq_false_iff.2 hc, Bool.false_and]
theorem parts_small {s : ByteArray} (hs : Small s) (sep : Nat) : ((parts sep (bs s)).map ofB).length ≤ s.size + 1 ∧ ∀ x ∈ (parts sep (bs s)).map ofB, Small x ∧ x.size ≤ s.size := by
  have h := parts_le (sep := sep) (bs s)
  rw [bs_length] at h
  refine ⟨by rw [List.length_map]; exact h.2, fun x hx => ?_⟩
  obtain ⟨p, hp, rfl⟩ := List.mem_map.1 hx
  have h2 := h.1 p hp
  have h3 : (ofB p).size = p.length := by rw [← bs_length, bs_ofB (parts_oct (bs_oct s) p hp)]
  unfold Small at *
  omega
theorem parts_all (s : ByteArray) (sep : Nat) (q : List Nat → Bool) : ((parts sep (bs s)).map ofB).all (fun x => q (bs x)) = (parts sep (bs s)).all q := by
  rw [List.all_map]
  have : ∀ p ∈ parts sep (bs s), q (bs (ofB p)) = q p := fun p hp => by rw [bs_ofB (parts_oct (bs_oct s) p hp)]
  rw [Bool.eq_iff_iff]
  simp only [List.all_eq_true, Function.comp]
  exact ⟨fun h p hp => by rw [← this p hp]; exact h p hp, fun h p hp => by rw [this p hp]; exact h p hp⟩
theorem ref4May_tot (s : ByteArray) (hs : Small s) (k : Nat) (hk : 2 * s.size + 10 < k) : graftwoodref04_May.f k s = some (isPath (bs s)) := by
  have h := parts_small hs 47
  unfold Small at hs
  unfold graftwoodref04_May.f
  rw [show (47 : Int) = ((47 : Nat) : Int) from rfl, Parts_tot s hs 47 k (by omega)]
  simp only [Option.bind_some]
  rw [show (0 : Int) = ((0 : Nat) : Int) from rfl, ref4May_l0 _ s.size (by omega) h.2 ((parts 47 (bs s)).map ofB) 0 k rfl (Nat.zero_le _) (by omega), parts_all s 47 isElem]
  rfl

/-! Numbers. -/
theorem digit_tot (c : Nat) (h : c < 256) : graftwoodref02_digit.f (c : Int) = some (if dig c then (c : Int) - 48 else -1) := by
  unfold graftwoodref02_digit.f dig
  by_cases h1 : c < 48
  · rw [if_pos (by omega), if_neg (by simp; omega)]
  · rw [if_neg (by omega)]
    by_cases h2 : c > 57
    · rw [if_pos (by omega), if_neg (by simp; omega)]
    · rw [if_neg (by omega), if_pos (by simp; omega)]
      congr 1
      unfold wrap64; omega
theorem ref2May_l0 (s : ByteArray) (hs : Small s) : ∀ (r : List Nat) (i k : Nat), (bs s).drop i = r → i ≤ s.size → r.length < k →
    graftwoodref02_May.l0 k s (i : Int) = some (r.all dig && match bs s with | [] => false | c :: r => r.isEmpty || c != 48)
  | [], i, k, hr, hi, hk => by
    have e := drop_nil hr hi
    obtain ⟨k, rfl⟩ : ∃ m, k = m + 1 := ⟨k - 1, by omega⟩
    simp only [graftwoodref02_May.l0]
    rw [if_neg (by omega)]
    cases hb : bs s with
    | nil =>
      have h0 : s.size = 0 := by rw [← bs_length, hb]; rfl
      rw [if_neg (by omega), if_neg (by omega)]; rfl
    | cons c r =>
      have h0 : s.size = r.length + 1 := by rw [← bs_length, hb]; rfl
      have hd : (bs s).drop 0 = c :: r := by simpa using hb
      have hc := (bt_drop hd).2.1
      rw [show ((0 : Nat) : Int) = 0 from rfl] at hc
      cases r with
      | nil => rw [if_pos (by simp at h0; omega)]; rfl
      | cons d r =>
        simp only [List.length_cons] at h0
        rw [if_neg (by omega), if_pos (by omega), if_pos (by omega), hc]
        simp
        rw [Bool.eq_iff_iff]; simp; omega
  | c :: r, i, k, hr, hi, hk => by
    obtain ⟨h1, h2, h3, h4⟩ := bt_drop hr
    have hw := w1 h1 hs
    obtain ⟨k, rfl⟩ : ∃ m, k = m + 1 := ⟨k - 1, by omega⟩
    simp only [List.length_cons] at hk
    simp only [graftwoodref02_May.l0]
    rw [if_pos (by omega), if_pos (by omega), h2, digit_tot c h4]
    simp only [Option.bind_some]
    by_cases hc : dig c = true
    · have hcc : 48 ≤ c := by simp [dig] at hc; omega
      rw [if_pos hc, if_neg (by omega), hw, ref2May_l0 s hs r (i + 1) k h3 (by omega) (by omega), List.all_cons, hc, Bool.true_and]
    · rw [if_neg hc, if_pos (by omega), List.all_cons, Bool.eq_false_iff.2 hc, Bool.false_and, Bool.false_and]
theorem ref2May_tot (s : ByteArray) (hs : Small s) (k : Nat) (hk : s.size < k) : graftwoodref02_May.f k s = some (isNum (bs s)) := by
  unfold graftwoodref02_May.f
  rw [show (0 : Int) = ((0 : Nat) : Int) from rfl, ref2May_l0 s hs (bs s) 0 k rfl (Nat.zero_le _) (by rw [bs_length]; exact hk)]
  rfl

/-! Words. -/
theorem Word_l0 (s : ByteArray) (hs : Small s) : ∀ (r : List Nat) (i k : Nat) (b : Bool), (bs s).drop i = r → i ≤ s.size → r.length + s.size + 6 < k →
    graftwoodref03_Word.l0 k s b (i : Int) = some (r.all wch && !(bs s).isEmpty && (!(b && r.all dig) || isNum (bs s)))
  | [], i, k, b, hr, hi, hk => by
    have e := drop_nil hr hi
    obtain ⟨k, rfl⟩ : ∃ m, k = m + 1 := ⟨k - 1, by omega⟩
    simp only [graftwoodref03_Word.l0]
    rw [if_neg (by omega)]
    have hl := bs_length s
    cases hb : bs s with
    | nil => rw [hb] at hl; rw [if_neg (by simp at hl; omega)]; rfl
    | cons c r =>
      rw [hb] at hl
      rw [if_pos (by simp at hl; omega)]
      cases b with
      | true => rw [if_pos rfl, ref2May_tot s hs k (by omega), hb]; simp
      | false => rw [if_neg (by decide)]; simp
  | c :: r, i, k, b, hr, hi, hk => by
    obtain ⟨h1, h2, h3, h4⟩ := bt_drop hr
    have hw := w1 h1 hs
    obtain ⟨k, rfl⟩ : ∃ m, k = m + 1 := ⟨k - 1, by omega⟩
    simp only [List.length_cons] at hk
    simp only [graftwoodref03_Word.l0]
    rw [if_pos (by omega), if_pos (by omega), h2, Class_tot c h4 k (by omega)]
    simp only [Option.bind_some]
    have d1 := cls_dig c h4
    have d2 := cls_let c h4
    by_cases hd : dig c = true
    · have hww : wch c = true := by simp [wch, hd]
      rw [if_pos (by have := d1.2 hd; omega), hw, Word_l0 s hs r (i + 1) k b h3 (by omega) (by omega), List.all_cons, List.all_cons, hd, hww, Bool.true_and, Bool.true_and]
    · have hdf := Bool.eq_false_iff.2 hd
      rw [if_neg (fun h => hd (d1.1 (by omega)))]
      by_cases hl : let_ c = true
      · have hww : wch c = true := by simp [wch, hl]
        rw [if_pos (by have := d2.2 hl; omega), hw, Word_l0 s hs r (i + 1) k false h3 (by omega) (by omega), List.all_cons, List.all_cons, hdf, hww]
        simp
      · rw [if_neg (fun h => hl (d2.1 (by omega)))]
        by_cases h45 : c = 45
        · have hww : wch c = true := by simp [wch, h45]
          rw [if_pos (by omega), hw, Word_l0 s hs r (i + 1) k false h3 (by omega) (by omega), List.all_cons, List.all_cons, hdf, hww]
          simp
        · have hww : wch c = false := by simp [wch, hdf, Bool.eq_false_iff.2 hl, h45]
          rw [if_neg (by omega), List.all_cons, hww, Bool.false_and, Bool.false_and, Bool.false_and]
theorem Word_tot (s : ByteArray) (hs : Small s) (k : Nat) (hk : 2 * s.size + 6 < k) : graftwoodref03_Word.f k s = some (isWord (bs s)) := by
  unfold graftwoodref03_Word.f
  rw [show (0 : Int) = ((0 : Nat) : Int) from rfl, Word_l0 s hs (bs s) 0 k true rfl (Nat.zero_le _) (by rw [bs_length]; omega)]
  unfold isWord
  rw [Bool.true_and, Bool.and_comm ((bs s).all wch)]
end Go.Proofs.Ytbkcjgjcnnggbaa.Q
