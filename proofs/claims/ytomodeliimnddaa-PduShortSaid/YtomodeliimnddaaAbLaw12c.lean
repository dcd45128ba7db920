/- Statements of layer 3: what is cut short, or has more behind, is refused: the walk. -/
import Derived.Test.YtomodeliimnddaaAbLaw12
set_option linter.unusedVariables false
set_option linter.unusedSimpArgs false
namespace Go.Proofs.Ytomodeliimnddaa
open Go.Ab

set_option maxRecDepth 20000 in
set_option maxHeartbeats 4000000 in
theorem law12 (f a n a2 : Int) (b : List Bool) (r : List Int) (at_ : Int) (m : List Int) (hf : 0 ≤ f ∧ f < 256) (ha : 0 ≤ a ∧ a < 65536) (hn : 0 ≤ n ∧ n < 65536) (ha2 : 0 ≤ a2 ∧ a2 < 65536) (hrr : ∀ x ∈ r, 0 ≤ x ∧ x < 65536) :
    Ev Try.prog 12 [reqA f a n a2 (.roB b) (.roI .u16 r), .int .i64 at_, .roI .u8 m] (.bool true) := by
  refine FrzK.ev rfl (trF g12 b12 c12 ?_)
  conv => whnf
  refine Ev.call known3 ?_
  conv => whnf
  refine Ev.call (light_ev _ _ _ _ _ _) ?_
  conv => whnf
  refine condS (fun h => ?_) (fun h => ?_)
  · conv => whnf
    exact FrzK.le (Le.refl _)
  conv => whnf
  have hb : b.length ≤ 2500 ∧ r.length ≤ 200 := by
    simp only [Bool.not_eq_false', Bool.and_eq_true, decide_eq_true_eq] at h
    omega
  refine condS (fun hm => ?_) (fun hm => ?_)
  · conv => whnf
    exact FrzK.le (Le.refl _)
  conv => whnf
  have hm : m.length ≤ 50 := by simp at hm; omega
  refine Ev.call (Request_ev f a n a2 b r hn.1 hn.2 hb.1 (by omega)) ?_
  conv => whnf
  refine condS (fun he => ?_) (fun he => ?_)
  · conv => whnf
    exact FrzK.le (Le.refl _)
  conv => whnf
  have hE : encE f n a2 b r = 0 := by simpa using he
  refine condS (fun hl => ?_) (fun hl => ?_)
  · conv => whnf
    exact FrzK.le (Le.refl _)
  conv => whnf
  have hk : encOk f n a2 b r = true := by
    by_cases hk : encOk f n a2 b r = true
    · exact hk
    · unfold encE at hE; rw [if_neg hk] at hE; omega
  have hl253 := encR_len253 f a n a2 b r
  have hB := enc_byte f a n a2 b r hf.1 hf.2
  have hpos : 0 < (encR f a n a2 b r).length := by
    have := (expl_enc f a n a2 b r hk).2.2.1; omega
  have hP := place_range at_ (encR f a n a2 b r).length (by omega)
  have hshort := short_no f a n a2 b r hk (placeS at_ (encR f a n a2 b r).length).toNat (by omega) hB
  have hmore := fun hm => more_no f a n a2 b r m hk hm
  have hdec := dec_enc f a n a2 b r hf ha hn ha2 hrr hk
  generalize hc : encR f a n a2 b r = L at *
  refine Ev.call (place_ev at_ L.length (by omega) (by omega)) ?_
  conv => whnf
  refine condT (by simp; omega) ?_
  conv => whnf
  have e1 : List.take ((placeS at_ L.length).toNat - 0) (List.drop 0 L) = L.take (placeS at_ L.length).toNat := by simp
  rw [e1]
  refine Ev.call (OpenRequest_ev (L.take (placeS at_ L.length).toNat) (by simp; omega)) ?_
  conv => whnf
  rw [hshort]
  refine copy_call (by omega) ?_
  conv => whnf
  refine condT (by simp; omega) ?_
  conv => whnf
  have e2 : List.take L.length (List.drop 0 L) ++ m = L ++ m := by simp
  refine OpenRequest_sl (L := L ++ m) (congrArg (fun x => some (Chunk.rowI .u8 x)) e2) (by simp) (by simp; omega) ?_
  conv => whnf
  have hg : ((decS (L ++ m)).2 == 30) = decide ((m.length : Int) > 0) := by
    cases m with
    | nil => rw [List.append_nil, hdec]; rfl
    | cons x m => rw [hmore (by simp)]; simp <;> omega
  rw [hg]
  refine condN (by simp) ?_
  conv => whnf
  obtain ⟨k12, k3, kall⟩ := encOk12 f n a2 b r hk
  refine condS (fun h1 => ?_) (fun h1 => ?_)
  · conv => whnf
    have hf12 : f = 1 ∨ f = 2 := by simp at h1; omega
    have hnn := k12 hf12
    refine condT (by simp <;> omega) ?_
    conv => whnf
    refine rReply_slB (L := List.replicate n.toNat false) rfl (by simp) (by simp; omega) ?_
    conv => whnf
    obtain ⟨c1, c2, c3⟩ := cRow12 f a n a2 b r hf12 hnn
    have hrep : ∀ l : List Int, (2 ≤ l.length → l.getD 0 0 = f ∧ l.getD 1 0 = (n + 7) / 8) → (orepS ⟨f, a, n, a2, b, r⟩ l).2 = if (l.length : Int) = 2 + (n + 7) / 8 then 0 else 30 := fun l h0 => orep12 f a n a2 b r l hf12 hE hnn h0
    generalize repB f 0 0 0 (List.replicate n.toNat false) [] = C at *
    have hk5 : (f == 5) = false ∧ (f == 6) = false ∧ (f == 22) = false := by rcases hf12 with rfl | rfl <;> exact ⟨rfl, rfl, rfl⟩
    have hcc : ∀ l : List Int, l.length < C.length → (∀ k, k < l.length → l.getD k 0 = C.getD k 0) → ((f == 5) = false ∧ (f == 6) = false ∧ (f == 22) = false) ∨ l.length < 2 ∨ (l.getD 0 0 == or128 f) = true := fun l _ _ => .inl hk5
    have hcc2 : ∀ l : List Int, (∀ k, k < C.length → l.getD k 0 = C.getD k 0) → ((f == 5) = false ∧ (f == 6) = false ∧ (f == 22) = false) ∨ l.length < 2 ∨ (l.getD 0 0 == or128 f) = true := fun l _ => .inl hk5
    have hK : ∀ k : Nat, (C.take k).length = k → k < C.length → (orepS ⟨f, a, n, a2, b, r⟩ (C.take k)).2 = 30 := fun k hk hlt => by
      rw [hrep _ (fun h2 => by rw [getD_take C k 0 (by omega), getD_take C k 1 (by omega)]; exact ⟨c2, c3⟩), if_neg (by rw [hk]; omega)]
    have hZ : (orepS ⟨f, a, n, a2, b, r⟩ C).2 = 0 := by rw [hrep C (fun _ => ⟨c2, c3⟩), if_pos c1]
    have hM : ∀ m' : List Int, m' ≠ [] → m'.length ≤ 50 → (orepS ⟨f, a, n, a2, b, r⟩ (C ++ m')).2 = 30 := fun m' hm' _ => by
      have : 0 < m'.length := List.length_pos_iff.2 hm'
      rw [hrep _ (fun h2 => by rw [getD_app C m' 0 (by omega), getD_app C m' 1 (by omega)]; exact ⟨c2, c3⟩), if_neg (by simp; omega)]
    have hPC := place_range at_ C.length (by omega)
    refine Ev.call (place_ev at_ C.length (by omega) (by omega)) ?_
    conv => whnf
    refine ⟨rfl, ?_⟩
    conv => whnf
    refine condT (by simp; omega) ?_
    conv => whnf
    have e3 : List.take ((placeS at_ C.length).toNat - 0) (List.drop 0 C) = C.take (placeS at_ C.length).toNat := by simp
    rw [e3]
    have hlt : (C.take (placeS at_ C.length).toNat).length = (placeS at_ C.length).toNat := by simp; omega
    refine Ev.call (OpenReply_ev f a n a2 b r (C.take (placeS at_ C.length).toNat) hn.1 hn.2 hb.1 hb.2 (by omega) (hcc _ (by omega) (fun k hk => getD_take C _ k (by rw [hlt] at hk; exact hk)))) ?_
    conv => whnf
    rw [hK _ hlt (by omega)]
    refine copy_call (by omega) ?_
    conv => whnf
    refine ⟨rfl, ?_⟩
    conv => whnf
    refine condT (by simp; omega) ?_
    conv => whnf
    refine ⟨rfl, ?_⟩
    conv => whnf
    have e4 : List.take C.length (List.drop 0 C) ++ m = C ++ m := by simp
    refine OpenReply_sl (L := C ++ m) (congrArg (fun x => some (Chunk.rowI .u8 x)) e4) (by simp) hn.1 hn.2 hb.1 hb.2 (by simp; omega) (hcc2 _ (fun k hk => getD_app C m k hk)) ?_
    conv => whnf
    have hgC : ((orepS ⟨f, a, n, a2, b, r⟩ (C ++ m)).2 == 30) = decide ((m.length : Int) > 0) := by
      cases m with
      | nil => rw [List.append_nil, hZ]; rfl
      | cons x m => rw [hM _ (by simp) hm]; simp <;> omega
    refine FrzK.le (leBool ?_)
    rw [hgC]
    simp
  · conv => whnf
    refine condS (fun h4 => ?_) (fun h4 => ?_)
    · conv => whnf
      have hf3 : f = 3 ∨ f = 4 ∨ f = 23 := by simp at h1 h4; omega
      have hnn := k3 hf3
      refine condT (by simp <;> omega) ?_
      conv => whnf
      refine rReply_slI (L := List.replicate n.toNat 0) rfl (by simp) (by simp; omega) ?_
      conv => whnf
      obtain ⟨hZ, c1, c2⟩ := orep3_yes f a n a2 b r hf3 hE hnn
      generalize repB f 0 0 0 [] (List.replicate n.toNat 0) = C at *
      have hk5 : (f == 5) = false ∧ (f == 6) = false ∧ (f == 22) = false := by rcases hf3 with rfl | rfl | rfl <;> exact ⟨rfl, rfl, rfl⟩
      have hcc : ∀ l : List Int, l.length < C.length → (∀ k, k < l.length → l.getD k 0 = C.getD k 0) → ((f == 5) = false ∧ (f == 6) = false ∧ (f == 22) = false) ∨ l.length < 2 ∨ (l.getD 0 0 == or128 f) = true := fun l _ _ => .inl hk5
      have hcc2 : ∀ l : List Int, (∀ k, k < C.length → l.getD k 0 = C.getD k 0) → ((f == 5) = false ∧ (f == 6) = false ∧ (f == 22) = false) ∨ l.length < 2 ∨ (l.getD 0 0 == or128 f) = true := fun l _ => .inl hk5
      have hK : ∀ k : Nat, (C.take k).length = k → k < C.length → (orepS ⟨f, a, n, a2, b, r⟩ (C.take k)).2 = 30 := fun k hk hlt =>
        orep3_no f a n a2 b r _ hf3 hE hnn (fun h2 => by rw [getD_take C k 0 (by omega)]; exact c2) (by omega) (by omega)
      have hM : ∀ m' : List Int, m' ≠ [] → m'.length ≤ 50 → (orepS ⟨f, a, n, a2, b, r⟩ (C ++ m')).2 = 30 := fun m' hm' h50 => by
        have : 0 < m'.length := List.length_pos_iff.2 hm'
        exact orep3_no f a n a2 b r _ hf3 hE hnn (fun h2 => by rw [getD_app C m' 0 (by omega)]; exact c2) (by simp; omega) (by simp; omega)
      have hPC := place_range at_ C.length (by omega)
      refine Ev.call (place_ev at_ C.length (by omega) (by omega)) ?_
      conv => whnf
      refine ⟨rfl, ?_⟩
      conv => whnf
      refine condT (by simp; omega) ?_
      conv => whnf
      have e3 : List.take ((placeS at_ C.length).toNat - 0) (List.drop 0 C) = C.take (placeS at_ C.length).toNat := by simp
      rw [e3]
      have hlt : (C.take (placeS at_ C.length).toNat).length = (placeS at_ C.length).toNat := by simp; omega
      refine Ev.call (OpenReply_ev f a n a2 b r (C.take (placeS at_ C.length).toNat) hn.1 hn.2 hb.1 hb.2 (by omega) (hcc _ (by omega) (fun k hk => getD_take C _ k (by rw [hlt] at hk; exact hk)))) ?_
      conv => whnf
      rw [hK _ hlt (by omega)]
      refine copy_call (by omega) ?_
      conv => whnf
      refine ⟨rfl, ?_⟩
      conv => whnf
      refine condT (by simp; omega) ?_
      conv => whnf
      refine ⟨rfl, ?_⟩
      conv => whnf
      have e4 : List.take C.length (List.drop 0 C) ++ m = C ++ m := by simp
      refine OpenReply_sl (L := C ++ m) (congrArg (fun x => some (Chunk.rowI .u8 x)) e4) (by simp) hn.1 hn.2 hb.1 hb.2 (by simp; omega) (hcc2 _ (fun k hk => getD_app C m k hk)) ?_
      conv => whnf
      have hgC : ((orepS ⟨f, a, n, a2, b, r⟩ (C ++ m)).2 == 30) = decide ((m.length : Int) > 0) := by
        cases m with
        | nil => rw [List.append_nil, hZ]; rfl
        | cons x m => rw [hM _ (by simp) hm]; simp <;> omega
      refine FrzK.le (leBool ?_)
      rw [hgC]
      simp
    · conv => whnf
      refine condS (fun h23 => ?_) (fun h23 => ?_)
      · conv => whnf
        have hf3 : f = 3 ∨ f = 4 ∨ f = 23 := .inr (.inr (eq_of_beq h23))
        have hnn := k3 hf3
        refine condT (by simp <;> omega) ?_
        conv => whnf
        refine rReply_slI (L := List.replicate n.toNat 0) rfl (by simp) (by simp; omega) ?_
        conv => whnf
        obtain ⟨hZ, c1, c2⟩ := orep3_yes f a n a2 b r hf3 hE hnn
        generalize repB f 0 0 0 [] (List.replicate n.toNat 0) = C at *
        have hk5 : (f == 5) = false ∧ (f == 6) = false ∧ (f == 22) = false := by rcases hf3 with rfl | rfl | rfl <;> exact ⟨rfl, rfl, rfl⟩
        have hcc : ∀ l : List Int, l.length < C.length → (∀ k, k < l.length → l.getD k 0 = C.getD k 0) → ((f == 5) = false ∧ (f == 6) = false ∧ (f == 22) = false) ∨ l.length < 2 ∨ (l.getD 0 0 == or128 f) = true := fun l _ _ => .inl hk5
        have hcc2 : ∀ l : List Int, (∀ k, k < C.length → l.getD k 0 = C.getD k 0) → ((f == 5) = false ∧ (f == 6) = false ∧ (f == 22) = false) ∨ l.length < 2 ∨ (l.getD 0 0 == or128 f) = true := fun l _ => .inl hk5
        have hK : ∀ k : Nat, (C.take k).length = k → k < C.length → (orepS ⟨f, a, n, a2, b, r⟩ (C.take k)).2 = 30 := fun k hk hlt =>
          orep3_no f a n a2 b r _ hf3 hE hnn (fun h2 => by rw [getD_take C k 0 (by omega)]; exact c2) (by omega) (by omega)
        have hM : ∀ m' : List Int, m' ≠ [] → m'.length ≤ 50 → (orepS ⟨f, a, n, a2, b, r⟩ (C ++ m')).2 = 30 := fun m' hm' h50 => by
          have : 0 < m'.length := List.length_pos_iff.2 hm'
          exact orep3_no f a n a2 b r _ hf3 hE hnn (fun h2 => by rw [getD_app C m' 0 (by omega)]; exact c2) (by simp; omega) (by simp; omega)
        have hPC := place_range at_ C.length (by omega)
        refine Ev.call (place_ev at_ C.length (by omega) (by omega)) ?_
        conv => whnf
        refine ⟨rfl, ?_⟩
        conv => whnf
        refine condT (by simp; omega) ?_
        conv => whnf
        have e3 : List.take ((placeS at_ C.length).toNat - 0) (List.drop 0 C) = C.take (placeS at_ C.length).toNat := by simp
        rw [e3]
        have hlt : (C.take (placeS at_ C.length).toNat).length = (placeS at_ C.length).toNat := by simp; omega
        refine Ev.call (OpenReply_ev f a n a2 b r (C.take (placeS at_ C.length).toNat) hn.1 hn.2 hb.1 hb.2 (by omega) (hcc _ (by omega) (fun k hk => getD_take C _ k (by rw [hlt] at hk; exact hk)))) ?_
        conv => whnf
        rw [hK _ hlt (by omega)]
        refine copy_call (by omega) ?_
        conv => whnf
        refine ⟨rfl, ?_⟩
        conv => whnf
        refine condT (by simp; omega) ?_
        conv => whnf
        refine ⟨rfl, ?_⟩
        conv => whnf
        have e4 : List.take C.length (List.drop 0 C) ++ m = C ++ m := by simp
        refine OpenReply_sl (L := C ++ m) (congrArg (fun x => some (Chunk.rowI .u8 x)) e4) (by simp) hn.1 hn.2 hb.1 hb.2 (by simp; omega) (hcc2 _ (fun k hk => getD_app C m k hk)) ?_
        conv => whnf
        have hgC : ((orepS ⟨f, a, n, a2, b, r⟩ (C ++ m)).2 == 30) = decide ((m.length : Int) > 0) := by
          cases m with
          | nil => rw [List.append_nil, hZ]; rfl
          | cons x m => rw [hM _ (by simp) hm]; simp <;> omega
        refine FrzK.le (leBool ?_)
        rw [hgC]
        simp
      · conv => whnf
        have hf128 : f < 128 := by omega
        refine Tr.le (leRepN Le.nilB (Le.nilI _)) (Ev.call (rReply_ev f 4 0 0 [] [] (by decide) (by decide) (by decide) (by decide)) ?_)
        conv => whnf
        have hCe := cX f hf128
        have hX := fun l h0 => orepX f a n a2 b r l hE h0
        generalize repB f 4 0 0 [] [] = C at *
        have c1 : C.length = 2 := by rw [hCe]; rfl
        have c2 : C.getD 0 0 = or128 f := by rw [hCe]; rfl
        have hcc : ∀ l : List Int, l.length < C.length → (∀ k, k < l.length → l.getD k 0 = C.getD k 0) → ((f == 5) = false ∧ (f == 6) = false ∧ (f == 22) = false) ∨ l.length < 2 ∨ (l.getD 0 0 == or128 f) = true := fun l h _ => .inr (.inl (by omega))
        have hcc2 : ∀ l : List Int, (∀ k, k < C.length → l.getD k 0 = C.getD k 0) → ((f == 5) = false ∧ (f == 6) = false ∧ (f == 22) = false) ∨ l.length < 2 ∨ (l.getD 0 0 == or128 f) = true := fun l h => .inr (.inr (by rw [h 0 (by omega), c2, beq_self_eq_true]))
        have hK : ∀ k : Nat, (C.take k).length = k → k < C.length → (orepS ⟨f, a, n, a2, b, r⟩ (C.take k)).2 = 30 := fun k hk hlt =>
          (hX _ (fun h2 => by omega)).1 (by omega)
        have hZ : (orepS ⟨f, a, n, a2, b, r⟩ C).2 = 0 := (hX C (fun _ => c2)).2 hCe
        have hM : ∀ m' : List Int, m' ≠ [] → m'.length ≤ 50 → (orepS ⟨f, a, n, a2, b, r⟩ (C ++ m')).2 = 30 := fun m' hm' h50 => by
          have : 0 < m'.length := List.length_pos_iff.2 hm'
          exact (hX _ (fun h2 => by rw [getD_app C m' 0 (by omega)]; exact c2)).1 (by simp; omega)
        have hPC := place_range at_ C.length (by omega)
        refine Ev.call (place_ev at_ C.length (by omega) (by omega)) ?_
        conv => whnf
        refine ⟨rfl, ?_⟩
        conv => whnf
        refine condT (by simp; omega) ?_
        conv => whnf
        have e3 : List.take ((placeS at_ C.length).toNat - 0) (List.drop 0 C) = C.take (placeS at_ C.length).toNat := by simp
        rw [e3]
        have hlt : (C.take (placeS at_ C.length).toNat).length = (placeS at_ C.length).toNat := by simp; omega
        refine Ev.call (OpenReply_ev f a n a2 b r (C.take (placeS at_ C.length).toNat) hn.1 hn.2 hb.1 hb.2 (by omega) (hcc _ (by omega) (fun k hk => getD_take C _ k (by rw [hlt] at hk; exact hk)))) ?_
        conv => whnf
        rw [hK _ hlt (by omega)]
        refine copy_call (by omega) ?_
        conv => whnf
        refine ⟨rfl, ?_⟩
        conv => whnf
        refine condT (by simp; omega) ?_
        conv => whnf
        refine ⟨rfl, ?_⟩
        conv => whnf
        have e4 : List.take C.length (List.drop 0 C) ++ m = C ++ m := by simp
        refine OpenReply_sl (L := C ++ m) (congrArg (fun x => some (Chunk.rowI .u8 x)) e4) (by simp) hn.1 hn.2 hb.1 hb.2 (by simp; omega) (hcc2 _ (fun k hk => getD_app C m k hk)) ?_
        conv => whnf
        have hgC : ((orepS ⟨f, a, n, a2, b, r⟩ (C ++ m)).2 == 30) = decide ((m.length : Int) > 0) := by
          cases m with
          | nil => rw [List.append_nil, hZ]; rfl
          | cons x m => rw [hM _ (by simp) hm]; simp <;> omega
        refine FrzK.le (leBool ?_)
        rw [hgC]
        simp
end Go.Proofs.Ytomodeliimnddaa
