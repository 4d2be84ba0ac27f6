/- Part 11 of this claim: several texts one behind the other: PEdit, PSum, R13Same, C13, LFewE, PUse, R13Val, Split, Fgraftwoodref03May, Fgraftwoodref05May, SplitP, RVal. What each shows stands in its theorems; conditions: sizes of texts and lists, as the functions' definitions say. -/
import Derived.Test.YtohdmmafjpjmfaaGreatDoorMRoomBack9
import Derived.Test.YtohdmmafjpjmfaaGreatDoorMRoomBack10
import Derived.Test.YtohdmmafjpjmfaaGreatDoorMRoomBack5
import Derived.Test.YtohdmmafjpjmfaaGreatDoorMRoomBack2
import Derived.Test.YtohdmmafjpjmfaaGreatDoorMRoomBack8
import Derived.Test.YtohdmmafjpjmfaaGreatDoorMRoomBack3
import Derived.Test.YtohdmmafjpjmfaaGreatDoorMRoomBack4
import Derived.Test.YtohdmmafjpjmfaaGreatDoorMRoomBack6
import Derived.RegionTactic
import Derived.BigRegion
import Derived.ChangeAlike
section
namespace Go.Proofs.YtohdmmafjpjmfaaGreatDoor.Q
open Go.Proofs.YtohdmmafjpjmfaaGreatDoor.QB.D
open Go Go.RowKit Go.Lib Gw
set_option linter.unusedVariables false
def byE : List S48 → S34 → Int
  | [], _ => 0
  | e :: r, x => (if e.f0 = x then e.f1 else 0) + byE r x
theorem byE_cons (e : S48) (r : List S48) (x : S34) : byE (e :: r) x = (if e.f0 = x then e.f1 else 0) + byE r x := rfl
theorem byE_append (a b : List S48) (x : S34) : byE (a ++ b) x = byE a x + byE b x := by
  induction a with
  | nil => simp [byE]
  | cons y r ih => rw [List.cons_append, byE_cons, byE_cons, ih]; omega
theorem byE_turn (a : List S48) (x : S34) : byE (a.map turnE) x = - byE a x := by
  induction a with
  | nil => rfl
  | cons y r ih => rw [List.map_cons, byE_cons, byE_cons, ih]; simp only [turnE]; by_cases e : y.f0 = x <;> simp only [e, if_true, if_false] <;> omega
theorem byE_none {l : List S48} {x : S34} (h : x ∉ l.map (·.f0)) : byE l x = 0 := by
  induction l with
  | nil => rfl
  | cons y r ih =>
    rw [List.map_cons, List.mem_cons, not_or] at h
    rw [byE_cons, if_neg (fun e => h.1 e.symm), ih h.2]
    rfl
structure CanE (l : List S48) : Prop where
  set : IsSet (l.map (·.f0))
  nz : ∀ x ∈ l, x.f1 ≠ 0
theorem CanE.nil : CanE [] := ⟨IsSet.nil, fun x h => by cases h⟩
theorem CanE.tail {x : S48} {l : List S48} (h : CanE (x :: l)) : CanE l := ⟨IsSet.tail h.set, fun y hy => h.nz y (.tail _ hy)⟩
theorem CanE.by_mem : ∀ {l : List S48}, CanE l → ∀ x ∈ l, byE l x.f0 = x.f1
  | [], _, x, h => by cases h
  | y :: r, h, x, hx => by
    have hn := h.set.nodup
    rw [List.map_cons, List.nodup_cons] at hn
    rw [byE_cons]
    rcases List.mem_cons.1 hx with rfl | hx
    · rw [if_pos rfl, byE_none hn.1]; omega
    · rw [if_neg (fun e => hn.1 (by rw [e]; exact List.mem_map_of_mem hx)), h.tail.by_mem x hx]; omega
theorem CanE.mem_iff {l : List S48} (h : CanE l) (x : S34) : x ∈ l.map (·.f0) ↔ byE l x ≠ 0 := by
  constructor
  · intro hx
    obtain ⟨e, he, rfl⟩ := List.mem_map.1 hx
    rw [h.by_mem e he]
    exact h.nz e he
  · intro hx
    by_cases hm : x ∈ l.map (·.f0)
    · exact hm
    · exact absurd (byE_none hm) hx
theorem CanE.back {l : List S48} (h : CanE l) : l = (l.map (·.f0)).map (fun n => ⟨n, byE l n⟩) := by
  rw [List.map_map]
  refine ((List.map_congr_left (fun x hx => ?_)).trans (List.map_id _)).symm
  simp only [Function.comp]
  rw [h.by_mem x hx]
  rfl
theorem CanE.ext {a b : List S48} (ha : CanE a) (hb : CanE b) (h : ∀ x, byE a x = byE b x) : a = b := by
  have hs : a.map (·.f0) = b.map (·.f0) := ha.set.ext hb.set (fun x => by rw [ha.mem_iff, hb.mem_iff, h x])
  have he : (fun n : S34 => (⟨n, byE a n⟩ : S48)) = (fun n => ⟨n, byE b n⟩) := funext fun n => by rw [h n]
  rw [ha.back, hb.back, hs, he]
theorem CanE.turn {a : List S48} (h : CanE a) : CanE (a.map turnE) := by
  refine ⟨?_, fun x hx => ?_⟩
  · rw [List.map_map]; exact h.set
  · obtain ⟨y, hy, rfl⟩ := List.mem_map.1 hx
    have := h.nz y hy
    simp only [turnE]
    omega
theorem chkE_of : ∀ (l : List S48) (p : Option S48), (∀ x ∈ l, edE x = true) → (l.map (·.f0)).Pairwise (fun x y => ordN x y < 0) → (∀ q, p = some q → ∀ x ∈ l, ordN q.f0 x.f0 < 0) → chkE p l = true
  | [], p, _, _, _ => by cases p <;> rfl
  | x :: r, p, hm, hs, hp => by
    rw [List.map_cons, List.pairwise_cons] at hs
    have ih := chkE_of r (some x) (fun y hy => hm y (.tail _ hy)) hs.2 (fun q e y hy => by injection e with e; rw [← e]; exact hs.1 y.f0 (List.mem_map_of_mem hy))
    cases p with
    | none => simp only [chkE]; rw [hm x (.head _), ih]; rfl
    | some q => simp only [chkE]; rw [hm x (.head _), ih, decide_eq_true (hp q rfl x (.head _))]; rfl
def InE (l : List S48) : Prop := ∀ x ∈ l, x.f1 ≤ 1099511627776 ∧ -1099511627776 ≤ x.f1
theorem CanE.check {l : List S48} (h : CanE l) (hi : InE l) : checkE l = true :=
  chkE_of l none (fun x hx => (edE_iff x).2 ⟨h.set.may x.f0 (List.mem_map_of_mem hx), h.nz x hx, hi x hx⟩) h.set.lt (fun q e => by cases e)
theorem chkE_pw : ∀ (l : List S48) (p : Option S48), (∀ x ∈ l, GoodN x.f0) → (∀ q, p = some q → GoodN q.f0) → chkE p l = true → (l.map (·.f0)).Pairwise (fun x y => ordN x y < 0) ∧ ∀ q, p = some q → ∀ x ∈ l, ordN q.f0 x.f0 < 0
  | [], p, _, _, _ => ⟨List.Pairwise.nil, fun q _ x h => by cases h⟩
  | x :: r, p, hg, hp, h => by
    have gx := hg x (.head _)
    have h2 : chkE (some x) r = true := by
      cases p with
      | none => simp only [chkE, Bool.and_eq_true] at h; exact h.2
      | some q => simp only [chkE, Bool.and_eq_true] at h; exact h.2.2
    have ih := chkE_pw r (some x) (fun y hy => hg y (.tail _ hy)) (fun q e => by injection e with e; rw [← e]; exact gx) h2
    refine ⟨?_, fun q e y hy => ?_⟩
    · rw [List.map_cons, List.pairwise_cons]
      refine ⟨fun y hy => ?_, ih.1⟩
      obtain ⟨z, hz, rfl⟩ := List.mem_map.1 hy
      exact ih.2 x rfl z hz
    · subst e
      simp only [chkE, Bool.and_eq_true] at h
      have hq := of_decide_eq_true h.2.1
      rcases List.mem_cons.1 hy with rfl | hy
      · exact hq
      · exact ordN_to.tr q.f0 x.f0 y.f0 (hp q rfl) gx (hg y (.tail _ hy)) hq (ih.2 x rfl y hy)
theorem check_can {l : List S48} (ht : ∀ x ∈ l, TinyN x.f0) (h : checkE l = true) : CanE l ∧ InE l := by
  have he := chkE_all l none h
  have hf := fun x hx => (edE_iff x).1 (he x hx)
  have hg : ∀ x ∈ l, GoodN x.f0 := fun x hx => mayN_good (ht x hx) (hf x hx).1
  refine ⟨⟨⟨fun x hx => ?_, fun x hx => ?_, (chkE_pw l none hg (fun q e => by cases e) h).1⟩, fun x hx => (hf x hx).2.1⟩, fun x hx => (hf x hx).2.2⟩
  · obtain ⟨y, hy, rfl⟩ := List.mem_map.1 hx; exact hg y hy
  · obtain ⟨y, hy, rfl⟩ := List.mem_map.1 hx; exact (hf y hy).1
theorem turn_in {l : List S48} (h : InE l) : InE (l.map turnE) := fun x hx => by
  obtain ⟨y, hy, rfl⟩ := List.mem_map.1 hx
  have := h y hy
  simp only [turnE]
  omega
theorem editsF_names (m : List (S34 × Int)) (S : List S34) : (editsF m S).map (·.f0) = S.filter (fun n => !decide ((lookC m n).getD 0 = 0)) := by
  unfold editsF
  rw [List.map_map]
  exact List.map_id _
theorem editsF_can {m : List (S34 × Int)} (h : CntOk m) : CanE (editsF m (sortN (m.map (·.1)))) := by
  refine ⟨?_, fun x hx => ?_⟩
  · rw [editsF_names]
    exact (sorted_is h.nodup (fun x hx => by obtain ⟨p, hp, rfl⟩ := List.mem_map.1 hx; exact h.may p hp)).filter _
  · unfold editsF at hx
    obtain ⟨n, hn, rfl⟩ := List.mem_map.1 hx
    have := (List.mem_filter.1 hn).2
    simpa using this
theorem editsF_by {m : List (S34 × Int)} (h : CntOk m) (x : S34) : byE (editsF m (sortN (m.map (·.1)))) x = (lookC m x).getD 0 := by
  by_cases hx : x ∈ (editsF m (sortN (m.map (·.1)))).map (·.f0)
  · obtain ⟨e, he, rfl⟩ := List.mem_map.1 hx
    rw [(editsF_can h).by_mem e he]
    unfold editsF at he
    obtain ⟨n, hn, rfl⟩ := List.mem_map.1 he
    rfl
  · rw [byE_none hx]
    rw [editsF_names, List.mem_filter] at hx
    by_cases hk : x ∈ m.map (·.1)
    · have := fun h2 => hx ⟨(sortN_perm _).mem_iff.2 hk, h2⟩
      simp only [Bool.not_eq_true', decide_eq_false_iff_not] at this
      exact (Classical.not_not.1 this).symm
    · have : lookC m x = none := by
        cases e : lookC m x with
        | none => rfl
        | some v => exact absurd ((look_mem m x).1 (by rw [e]; rfl)) hk
      rw [this]
      rfl
theorem diffV_can (l m : List S34) (hl : l.length ≤ 32768) (hm : m.length ≤ 32768) (tl : ∀ x ∈ l, TinyN x ∧ mayN x = true) (tm : ∀ x ∈ m, TinyN x ∧ mayN x = true) : CanE (diffV l m) := editsF_can (diffC_ok l m hl hm tl tm)
theorem diffV_by (l m : List S34) (hl : l.length ≤ 32768) (hm : m.length ≤ 32768) (tl : ∀ x ∈ l, TinyN x ∧ mayN x = true) (tm : ∀ x ∈ m, TinyN x ∧ mayN x = true) (x : S34) : byE (diffV l m) x = cntN m x - cntN l x := by
  unfold diffV
  rw [editsF_by (diffC_ok l m hl hm tl tm), look_diff]
theorem diffV_in (l m : List S34) (hl : l.length ≤ 32768) (hm : m.length ≤ 32768) : InE (diffV l m) := fun x hx => by
  unfold diffV editsF at hx
  obtain ⟨n, hn, rfl⟩ := List.mem_map.1 hx
  have h1 := cntN_range l n
  have h2 := cntN_range m n
  simp only [look_diff]
  omega
theorem look_countE : ∀ (l : List S48) (m : List (S34 × Int)) (x : S34), (lookC (countE m l) x).getD 0 = (lookC m x).getD 0 + byE l x
  | [], m, x => by simp [countE, byE]
  | y :: r, m, x => by
    have h : countE m (y :: r) = countE (bumpC m y.f0 y.f1) r := rfl
    rw [h, look_countE r, look_bump, byE_cons]
    omega
theorem keys_countE : ∀ (l : List S48) (m : List (S34 × Int)) (y : S34), y ∈ (countE m l).map (·.1) ↔ y ∈ m.map (·.1) ∨ y ∈ l.map (·.f0)
  | [], m, y => by simp [countE]
  | x :: r, m, y => by
    have h : countE m (x :: r) = countE (bumpC m x.f0 x.f1) r := rfl
    rw [h, keys_countE r, keys_bump, List.map_cons, List.mem_cons, or_assoc]
def TinyE (l : List S48) : Prop := ∀ x ∈ l, TinyN x.f0 ∧ mayN x.f0 = true
theorem bothV_can (a b : List S48) (hl : a.length ≤ 32768) (hm : b.length ≤ 32768) (ta : TinyE a) (tb : TinyE b) : CanE (bothV a b) := editsF_can (bothC_ok a b hl hm ta tb)
theorem bothV_by (a b : List S48) (hl : a.length ≤ 32768) (hm : b.length ≤ 32768) (ta : TinyE a) (tb : TinyE b) (x : S34) : byE (bothV a b) x = byE a x + byE b x := by
  unfold bothV
  rw [editsF_by (bothC_ok a b hl hm ta tb), look_countE, byE_append]
  have : (lookC [] x).getD 0 = 0 := by simp [lookC]
  rw [this]
  omega
theorem diffV_tiny (l m : List S34) (tl : ∀ x ∈ l, TinyN x ∧ mayN x = true) (tm : ∀ x ∈ m, TinyN x ∧ mayN x = true) : TinyE (diffV l m) := fun x hx => by
  unfold diffV editsF at hx
  obtain ⟨n, hn, rfl⟩ := List.mem_map.1 hx
  rcases (keys_diff l m n).1 ((sortN_perm _).mem_iff.1 (List.mem_filter.1 hn).1) with h | h
  · exact tl n h
  · exact tm n h
theorem diffV_len2 (l m : List S34) : (diffV l m).length ≤ l.length + m.length := by
  have h0 := countC_ok (p := fun _ => True) (-1) l [] 0 ⟨List.nodup_nil, fun q h => trivial, Nat.le_refl _⟩ (fun _ _ => trivial)
  have h1 := countC_ok (p := fun _ => True) 1 m _ _ h0 (fun _ _ => trivial)
  have h2 := editsF_len (diffC l m) (sortN ((diffC l m).map (·.1)))
  rw [(sortN_perm _).length_eq, List.length_map] at h2
  have h3 := h1.2.2
  unfold diffV
  unfold diffC at h2 ⊢
  omega
theorem bothV_len2 (a b : List S48) : (bothV a b).length ≤ a.length + b.length := by
  have h1 := countE_ok (p := fun _ => True) (a ++ b) [] 0 ⟨List.nodup_nil, fun q h => trivial, Nat.le_refl _⟩ (fun _ _ => trivial)
  have h2 := editsF_len (countE [] (a ++ b)) (sortN ((countE [] (a ++ b)).map (·.1)))
  rw [(sortN_perm _).length_eq, List.length_map] at h2
  have h3 := h1.2.2
  rw [List.length_append] at h3
  unfold bothV
  omega
theorem bothV_tinyE (a b : List S48) (ta : TinyE a) (tb : TinyE b) : TinyE (bothV a b) := fun x hx => by
  unfold bothV editsF at hx
  obtain ⟨n, hn, rfl⟩ := List.mem_map.1 hx
  have h := (keys_countE (a ++ b) [] n).1 ((sortN_perm _).mem_iff.1 (List.mem_filter.1 hn).1)
  rw [List.map_append, List.mem_append] at h
  rcases h with h | h | h
  · cases h
  · obtain ⟨y, hy, rfl⟩ := List.mem_map.1 h; exact ta y hy
  · obtain ⟨y, hy, rfl⟩ := List.mem_map.1 h; exact tb y hy
theorem turn_tinyE {a : List S48} (h : TinyE a) : TinyE (a.map turnE) := fun x hx => by
  obtain ⟨y, hy, rfl⟩ := List.mem_map.1 hx
  exact h y hy
end Go.Proofs.YtohdmmafjpjmfaaGreatDoor.Q
end
section
namespace Go.Proofs.YtohdmmafjpjmfaaGreatDoor.Q
open Go.Proofs.YtohdmmafjpjmfaaGreatDoor.QB.D
open Go Go.RowKit Go.Lib Go.Proofs.YtohdmmafjpjmfaaGreatDoorW.PrintWords Go.Proofs.YtohdmmafjpjmfaaGreatDoorW.PrintLast Go.Proofs.YtohdmmafjpjmfaaGreatDoorW.PrintMore Gw
set_option linter.unusedVariables false
set_option linter.unusedSimpArgs false
instance : DecidableEq S48 := fun x y => decidable_of_iff (x.f0 = y.f0 ∧ x.f1 = y.f1) ⟨fun h => by cases x; cases y; simp only at h; rw [h.1, h.2], fun h => by rw [h]; exact ⟨rfl, rfl⟩⟩
def Okl (F : List S34) : Prop := F.length ≤ 50 ∧ ∀ x ∈ F, Brief x
structure Oke (l : List S48) : Prop where
  can : CanE l
  inn : InE l
  tiny : TinyE l
  len : l.length ≤ 32768
theorem Oke.check {l : List S48} (h : Oke l) : checkE l = true := h.can.check h.inn
theorem Oke.turn {l : List S48} (h : Oke l) : Oke (l.map turnE) := ⟨h.can.turn, turn_in h.inn, turn_tinyE h.tiny, by rw [List.length_map]; exact h.len⟩
theorem Okl.tm {F : List S34} (h : Okl F) (ha : F.all mayN = true) : ∀ x ∈ F, TinyN x ∧ mayN x = true := fun x hx => ⟨(h.2 x hx).tiny, List.all_eq_true.1 ha x hx⟩
def Oks (F : List S48) : Prop := F.length ≤ 20 ∧ ∀ x ∈ F, Brief x.f0
theorem Oks.oke {l : List S48} (h : Oks l) (hc : checkE l = true) : Oke l :=
  have ht : ∀ x ∈ l, TinyN x.f0 := fun x hx => (h.2 x hx).tiny
  have c := check_can ht hc
  ⟨c.1, c.2, fun x hx => ⟨ht x hx, c.1.set.may x.f0 (List.mem_map_of_mem hx)⟩, by have := h.1; omega⟩
structure UV where
  m : Int
  e : Int
  s : List S48
def noneU : UV := ⟨0, 0, []⟩
def okU (u : UV) : Bool := decide (0 ≤ u.m ∧ u.m ≤ 1099511627776 ∧ 0 ≤ u.e ∧ u.e ≤ 1099511627776) && (checkE u.s && u.s.all (fun x => !decide (x.f1 < 0)))
def addU (u : UV) (dm de : Int) (by_ : List S48) : UV := ⟨u.m + dm, u.e + de, bothV u.s by_⟩
def changeU (u : UV) (dm de : Int) (none : Int) (said : List S34) : UV × Int :=
  if okU u = true ∧ said.all mayN = true then
    let v := addU u dm de (if none = 2 then (diffV [] said).map turnE else diffV [] said)
    if okU v = true then (v, 0) else (u, none)
  else (u, 1)
theorem okU_iff (u : UV) : okU u = true ↔ (0 ≤ u.m ∧ u.m ≤ 1099511627776 ∧ 0 ≤ u.e ∧ u.e ≤ 1099511627776) ∧ checkE u.s = true ∧ ∀ x ∈ u.s, 0 ≤ x.f1 := by
  unfold okU
  rw [Bool.and_eq_true, Bool.and_eq_true, decide_eq_true_eq, List.all_eq_true]
  refine and_congr_right (fun _ => and_congr_right (fun _ => ?_))
  refine forall_congr' (fun x => forall_congr' (fun _ => ?_))
  rw [Bool.not_eq_true', decide_eq_false_iff_not]
  omega
theorem pos_of_by {l : List S48} (hc : CanE l) (h : ∀ x, 0 ≤ byE l x) : ∀ x ∈ l, 0 ≤ x.f1 := fun x hx => by
  rw [← hc.by_mem x hx]
  exact h x.f0
def GoodL (l : List S34) : Prop := l.length ≤ 30000 ∧ ∀ x ∈ l, TinyN x ∧ mayN x = true
theorem goodL_nil : GoodL [] := ⟨by simp, (fun x h => by cases h)⟩
theorem GoodL.oke {F G : List S34} (hF : GoodL F) (hG : GoodL G) (hl : F.length + G.length ≤ 32768) : Oke (diffV F G) ∧ ∀ x, byE (diffV F G) x = cntN G x - cntN F x :=
  have a := hF.1; have b := hG.1
  ⟨⟨diffV_can F G (by omega) (by omega) hF.2 hG.2, diffV_in F G (by omega) (by omega), diffV_tiny F G hF.2 hG.2, by have := diffV_len2 F G; omega⟩, diffV_by F G (by omega) (by omega) hF.2 hG.2⟩
theorem cntN_nil (x : S34) : cntN [] x = 0 := rfl
theorem turn_diff {F G : List S34} (hF : GoodL F) (hG : GoodL G) (hl : F.length + G.length ≤ 32768) : (diffV F G).map turnE = diffV G F :=
  have p := hF.oke hG hl
  have q := hG.oke hF (by omega)
  p.1.can.turn.ext q.1.can (fun x => by rw [byE_turn, p.2, q.2]; omega)
def useV (m e : Int) (L : List S34) : UV := ⟨m, e, diffV [] L⟩
theorem diffV_cnt {L K : List S34} (hL : GoodL L) (hK : GoodL K) (h : ∀ x, cntN L x = cntN K x) : diffV [] L = diffV [] K :=
  have p := goodL_nil.oke hL (by have := hL.1; simp; omega)
  have q := goodL_nil.oke hK (by have := hK.1; simp; omega)
  p.1.can.ext q.1.can (fun x => by rw [p.2, q.2, h x])
theorem addU_add {m e dm de : Int} {L K : List S34} (hL : GoodL L) (hK : GoodL K) (hLK : GoodL (L ++ K)) : addU (useV m e L) dm de (diffV [] K) = useV (m + dm) (e + de) (L ++ K) := by
  have p := goodL_nil.oke hL (by have := hL.1; simp; omega)
  have q := goodL_nil.oke hK (by have := hK.1; simp; omega)
  have r := goodL_nil.oke hLK (by have := hLK.1; simp at this ⊢; omega)
  unfold addU useV
  congr 1
  refine (bothV_can _ _ p.1.len q.1.len p.1.tiny q.1.tiny).ext r.1.can (fun x => ?_)
  rw [bothV_by _ _ p.1.len q.1.len p.1.tiny q.1.tiny, p.2, q.2, r.2, cntN_append, cntN_nil]
  omega
theorem addU_sub {m e dm de : Int} {L K R : List S34} (hL : GoodL L) (hK : GoodL K) (hR : GoodL R) (h : ∀ x, cntN L x = cntN K x + cntN R x) : addU (useV m e L) dm de (diffV K []) = useV (m + dm) (e + de) R := by
  have p := goodL_nil.oke hL (by have := hL.1; simp; omega)
  have q := hK.oke goodL_nil (by have := hK.1; simp; omega)
  have r := goodL_nil.oke hR (by have := hR.1; simp; omega)
  unfold addU useV
  congr 1
  refine (bothV_can _ _ p.1.len q.1.len p.1.tiny q.1.tiny).ext r.1.can (fun x => ?_)
  rw [bothV_by _ _ p.1.len q.1.len p.1.tiny q.1.tiny, p.2, q.2, r.2, cntN_nil, h x]
  omega
theorem okU_useV {m e : Int} {L : List S34} (hL : GoodL L) (h : 0 ≤ m ∧ m ≤ 1099511627776 ∧ 0 ≤ e ∧ e ≤ 1099511627776) : okU (useV m e L) = true := by
  have p := goodL_nil.oke hL (by have := hL.1; simp; omega)
  exact (okU_iff _).2 ⟨h, p.1.check, pos_of_by p.1.can (fun x => by show 0 ≤ byE (diffV [] L) x; rw [p.2, cntN_nil]; have := (cntN_range L x).1; omega)⟩
theorem all_good {l : List S34} (h : ∀ x ∈ l, TinyN x ∧ mayN x = true) : l.all mayN = true := List.all_eq_true.2 (fun x hx => (h x hx).2)
theorem changeU_add {m e dm de nn : Int} {L K : List S34} (hL : GoodL L) (hK : GoodL K) (hLK : GoodL (L ++ K)) (hn : nn ≠ 2) (h : 0 ≤ m ∧ m ≤ 1099511627776 ∧ 0 ≤ e ∧ e ≤ 1099511627776) (h2 : 0 ≤ m + dm ∧ m + dm ≤ 1099511627776 ∧ 0 ≤ e + de ∧ e + de ≤ 1099511627776) :
    changeU (useV m e L) dm de nn K = (useV (m + dm) (e + de) (L ++ K), 0) := by
  unfold changeU
  rw [if_pos ⟨okU_useV hL h, all_good hK.2⟩]
  simp only [if_neg hn]
  rw [addU_add hL hK hLK, if_pos (okU_useV hLK h2)]
theorem changeU_sub {m e dm de : Int} {L K R : List S34} (hL : GoodL L) (hK : GoodL K) (hR : GoodL R) (hc : ∀ x, cntN L x = cntN K x + cntN R x) (h : 0 ≤ m ∧ m ≤ 1099511627776 ∧ 0 ≤ e ∧ e ≤ 1099511627776) (h2 : 0 ≤ m + dm ∧ m + dm ≤ 1099511627776 ∧ 0 ≤ e + de ∧ e + de ≤ 1099511627776) :
    changeU (useV m e L) dm de 2 K = (useV (m + dm) (e + de) R, 0) := by
  unfold changeU
  rw [if_pos ⟨okU_useV hL h, all_good hK.2⟩]
  simp only [if_true]
  rw [turn_diff goodL_nil hK (by have := hK.1; simp; omega), addU_sub hL hK hR hc, if_pos (okU_useV hR h2)]
end Go.Proofs.YtohdmmafjpjmfaaGreatDoor.Q
end
section
namespace Go.Proofs.YtohdmmafjpjmfaaGreatDoor.Q
open Go.RowKit Go.Proofs.YtohdmmafjpjmfaaGreatDoorW.PrintWords Go.Proofs.YtohdmmafjpjmfaaGreatDoorW.PrintLast Go.Proofs.YtohdmmafjpjmfaaGreatDoorW.PrintMore
attribute [local go_sem] max2_int min2_int max_two min_two max_three min_three max_four min_four   -- for this text's walks alone
set_option linter.unusedVariables false
set_option linter.unusedSimpArgs false
end Go.Proofs.YtohdmmafjpjmfaaGreatDoor.Q
end
