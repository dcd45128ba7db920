/- The engine's soundness: append. -/
import Derived.Test.YtomodeliimnddaaAbOps5
set_option linter.unusedVariables false
set_option linter.unusedSimpArgs false
set_option autoImplicit false
namespace Go.Ab

section
variable {P : Program} {ι : Iota} {s : St} {w : World} {M : Nat → Prop}

theorem storeCells_ok {b o : Nat} {cs : Array Value} {T : Nat} {fr : Nat × Nat} (l : List Value) (hh : w.heap[b]? = some (.cells cs T fr)) (hf : ∀ i, i < cs.size → ¬ (fr.1 ≤ i ∧ i < fr.2))
    (hle : o + l.length ≤ cs.size) (h1 : ∀ u ∈ l, u.oneCell' = true) : (storeCells ⟨b, o, none⟩ l).run P w = .ok () (w.setCells b o l) := by
  have hst := run_storeCells_cells (P := P) b o l 0 w (fun j hj => by
      have : o + 0 + j < cs.size := by omega
      simp only [Nat.add_zero] at this
      simp [World.cell?, hh, this]) (fun j hj => by
      have h2 : o + 0 + j < cs.size := by omega
      have := hf _ h2
      obtain ⟨lo, hi⟩ := fr
      simp only [World.frozen?, hh]
      simp only at this
      simp; omega) h1
  simpa only [Nat.add_zero] using hst

theorem append_core {n0 t t' ty e es b n m cap : Nat} {A : Option Addr} {Y : Value} {z : List (Nat × AV)} {r1 r2 r : Chunk} {m1 : Mem} (hR : Rep ι s w M) (hn : n0 ≤ s.next)
    (hR1 : Rep ι ⟨s.next, m1⟩ w M) (hsub : ∀ b, Own ι ⟨s.next, m1⟩ b → Own ι s b)
    (hu : P.underlying t = some (.slice e)) (hu' : ∃ e', P.underlying t' = some (.slice e')) (hz : sizeP P e = some es) (hb : bytesP P e = some b) (h0 : 0 < b)
    (hzr : zrl P e = some z) (hzl : rlLen z = es) (hX : Src ι w M es r1 n (.slice A n cap)) (hY : Src ι w M es r2 m Y) (hYl : ∃ B c, Y = .slice B m c) (hle : n ≤ cap) (hfit : (n + m) * b ≤ 140737488355328)
    (hr : r.size = (n + m) * es) (hrg : ∀ j, j < r.size → r.get j = if j < n * es then r1.get j else r2.get (j - n * es))
    (hA : (A = none ∧ cap = 0) ∨ ∃ bb oo cs T fr, A = some ⟨bb, oo, none⟩ ∧ Own ι s bb ∧ w.heap[bb]? = some (.cells cs T fr) ∧ (∀ i, i < cs.size → ¬ (fr.1 ≤ i ∧ i < fr.2)) ∧ oo + cap * es ≤ cs.size ∧ ¬ Own ι ⟨s.next, m1⟩ bb) :
    Does P n0 ι s w M (Builtin.append_ #[t, t'] ty #[.slice A n cap, Y]) (.sl es s.next 0 (n + m)) ⟨s.next + 1, (s.next, some r) :: m1⟩ := by
  have hi : ι s.next = none := hR.fresh _ (Nat.le_refl _)
  have hg1 : (St.mk s.next m1).get s.next = none := by
    cases h : (St.mk s.next m1).get s.next with
    | none => rfl
    | some c => exact absurd (hR1.none_of_get h) (by simp)
  have hnm : Go n0 ι s w M ι ⟨s.next, m1⟩ w M := Go.names hn hsub
  obtain ⟨N, hN1, hN2, hN3, hc⟩ := append_run (P := P) hu hu' hz hb h0 hzr hzl hX hY hYl hle hfit (ty := ty) (fun h => by
    rcases hA with ⟨_, h⟩ | ⟨_, _, _, _, _, h', _⟩
    · exact h
    · rw [h] at h'; cases h')
  rcases hc with ⟨hc, hrun⟩ | ⟨hc, nc, O, hnc, hO, hO1, hO2, hrun⟩
  · rcases hA with ⟨rfl, rfl⟩ | ⟨bb, oo, cs, T, fr, rfl, hown, hh, hfr, hbd, hno⟩
    · obtain ⟨rfl, rfl⟩ : n = 0 ∧ m = 0 := by omega
      have hrun := hrun _ rfl
      have hR2 : Rep (ι.set s.next none) ⟨s.next + 1, m1⟩ w M := Rep.handle (hR1.next (n := s.next + 1) (by simp)) hi (by simp) hg1
      refine ⟨.slice none 0 0, ι.set s.next none, w, M, by rw [hrun]; rfl, .slv _ _ _ (ι.set_same _ _), hR2.put (.inl ⟨ι.set_same _ _, by rw [hr]; simp⟩), ?_, ι.set_ext _ _ hi, Imm.refl w M⟩
      have hgo := Go.handle (n0 := n0) (p := none) (ι := ι) (s := ⟨s.next, m1⟩) (w := w) (M := M) hn hn hg1 hi
      refine Go.trans hnm ⟨hgo.size, hgo.tape, hgo.os, hgo.output, hgo.block, hgo.shape, hgo.back, hgo.keep, fun b hb ho => ?_, by simp only; omega, hgo.ext⟩ hR.lt
      obtain ⟨j, c', base, h1, h2⟩ := ho
      rw [St.get_cons] at h1
      split at h1
      · rename_i he
        subst he
        rw [ι.set_same] at h2
        simp at h2
      · rename_i he
        rw [ι.set_other _ _ _ (fun e => he e.symm)] at h2
        exact ⟨j, c', base, h1, h2⟩
    · have hMb : M bb := hR.ownM hown
      have hlen : N.toList.length = m * es := by simpa using hN1
      have hmul : (n + m) * es ≤ cap * es := Nat.mul_le_mul_right _ hc
      have hadd : (n + m) * es = n * es + m * es := Nat.add_mul _ _ _
      have hst := storeCells_ok (P := P) (w := w) (b := bb) (o := oo + n * es) N.toList hh hfr (by omega) hN3
      rw [← add_eq ⟨bb, oo, none⟩ (n * es) rfl] at hst
      have hrun := hrun _ hst
      obtain ⟨e1, e2, e3, e4⟩ := setCells_same N.toList bb (oo + n * es) w
      have hsh := fun k => setCells_shape N.toList bb (oo + n * es) k w cs T fr hh
      have hoth := fun k hk => setCells_other N.toList bb (oo + n * es) k w hk
      have hI := Imm.set (w := w) hMb e1 hoth hsh
      have hx := ι.set_ext s.next (some (bb, oo)) hi
      have hshape : w.shape? bb = some (T, cs.size) := by unfold World.shape?; rw [hh]
      have hnj : ∀ j c base, (St.mk s.next m1).get j = some c → ι j ≠ some (some (bb, base)) := fun j c base hc hb => hno ⟨j, c, base, hc, hb⟩
      have hne1 : ∀ j c, (St.mk s.next m1).get j = some c → j ≠ s.next := fun j c hc e => by subst e; rw [hg1] at hc; cases hc
      -- the other chunks
      have hR2 : Rep (ι.set s.next (some (bb, oo))) ⟨s.next + 1, m1⟩ (w.setCells bb (oo + n * es) N.toList) M := by
        have hR2 := Rep.handle (p := some (bb, oo)) (hR1.next (n := s.next + 1) (by simp)) hi (by simp) hg1
        refine ⟨hR2.fresh, fun j c hc => ?_, hR2.inj, fun b hb => by rw [e1]; exact hR2.lt b hb⟩
        rcases hR2.own j c hc with h1 | ⟨b1, base1, h1, h2, h3⟩
        · exact .inl h1
        · refine .inr ⟨b1, base1, h1, h2, h3.mono hI (fun _ _ h => h) (hoth b1 fun e => ?_)⟩
          subst e
          rw [ι.set_other _ _ _ (hne1 j c hc)] at h1
          exact hnj j c base1 hc h1
      refine ⟨.slice (some ⟨bb, oo, none⟩) (n + m) cap, ι.set s.next (some (bb, oo)), _, M, by rw [hrun]; rfl, ?_, hR2.put (.inr ⟨bb, oo, ι.set_same _ _, hMb, ?_, fun j c' p hne hc' hp => ?_⟩), ?_, hx, hI⟩
      · exact .sl es s.next 0 (n + m) bb oo oo cap T cs.size (ι.set_same _ _) (.inl rfl) hc ((hsh bb).trans hshape) hbd
      · refine ⟨_, T, fr, setCells_heap _ _ _ _ _ _ _ hh, fun i hi' => hfr i (by rwa [putA_size] at hi'), by rw [putA_size, hr]; omega, fun j hj => ?_⟩
        have hj' := hj
        rw [hr] at hj
        rw [putA_get _ _ _ _ (by omega), hlen, hrg j hj']
        by_cases hjn : j < n * es
        · rw [if_pos hjn, if_neg (by omega)]
          rcases hX.2 with ⟨rfl, _⟩ | ⟨a, c, g, ha, hs, hcell, hg⟩
          · simp at hjn
          · simp only [Value.slice.injEq, Option.some.injEq] at ha
            obtain ⟨rfl, _, rfl⟩ := ha
            have h5 := hcell j hjn
            have h6 : cs.getD (oo + j) default = g j := by
              have hlt : oo + j < cs.size := by omega
              simp only [World.cell?, hh] at h5
              simp [hlt] at h5
              simpa [Array.getD, hlt] using h5
            rw [h6]
            exact ((hg j hjn).1).mono hI hx
        · rw [if_neg hjn, if_pos (by omega)]
          have h7 := hN2 (j - n * es) (by omega)
          rw [show oo + j - (oo + n * es) = j - n * es by omega]
          have h8 : N.toList.getD (j - n * es) default = N.getD (j - n * es) default := by
            simp [List.getD_eq_getElem?_getD, Array.getD_eq_getD_getElem?]
          rw [h8]
          exact h7.mono hI hx
      · rw [ι.set_other _ _ _ hne] at hp
        intro e
        have h9 : p = (bb, p.2) := by rw [← e]
        rw [h9] at hp
        exact hnj j c' p.2 hc' hp
      · refine ⟨by omega, e2, e3, e4, fun k hk hno => hoth k fun e => hno (e ▸ hown), fun k _ => hsh k, fun _ _ h => h, fun _ h _ => h, fun k hk ho => ?_, by simp only; omega, fun h hh => ι.set_other _ _ _ (by omega)⟩
        obtain ⟨j, c', base, h1, h2⟩ := ho
        rw [St.get_cons] at h1
        split at h1
        · rename_i he
          subst he
          rw [ι.set_same] at h2
          simp only [Option.some.injEq, Prod.mk.injEq] at h2
          exact h2.1 ▸ hown
        · rename_i he
          rw [ι.set_other _ _ _ (fun e => he e.symm)] at h2
          exact hsub k ⟨j, c', base, h1, h2⟩
  · have hadd : (n + m) * es = n * es + m * es := Nat.add_mul _ _ _
    obtain ⟨ι', M', h1, h2, h3, h4, h5⟩ := new_row (ι := ι) (s := ⟨s.next, m1⟩) (w := w.drew) (M := M) (n0 := n0) (e := e) (es := es) (n := n + m) (nc := nc) (c := r) (O := O) hR1.drew hn hO hnc hr (fun j hj => by
      have hj' := hj
      rw [hr] at hj
      rw [hrg j hj']
      by_cases hjn : j < n * es
      · rw [if_pos hjn]; exact (hO1 j hjn).mono .drew (fun _ _ h => h)
      · rw [if_neg hjn]
        have := (hO2 (j - n * es) (by omega)).mono (Imm.drew (w := w) (M := M)) (fun _ _ h => h)
        rwa [show n * es + (j - n * es) = j by omega] at this)
    exact ⟨_, ι', _, M', hrun, h1, h2, (hnm.trans (Go.drew hn) hR.lt).trans h3 hR.lt, h4, Imm.drew.trans h5⟩

theorem append_sound {n0 t t' ty e es b : Nat} {x y v : AV} {X Y : Value} {z : List (Nat × AV)} {eff : Eff} (hR : Rep ι s w M) (hn : n0 ≤ s.next)
    (hu : P.underlying t = some (.slice e)) (hu' : ∃ e', P.underlying t' = some (.slice e')) (hz : sizeP P e = some es) (hb : bytesP P e = some b) (h0 : 0 < b)
    (hzr : zrl P e = some z) (hzl : rlLen z = es) (hX : VRel ι w M x X) (hY : VRel ι w M y Y) (h : appA es b x y s.get s.next = .ok true v eff) :
    Does P n0 ι s w M (Builtin.append_ #[t, t'] ty #[X, Y]) v (s.app eff) := by
  have hG := hR.hget
  unfold appA at h
  split at h
  · obtain rfl := hX.nils_inv
    split at h
    · rename_i c r m h1 h2
      simp only [Res.ok.injEq, Bool.and_eq_true, decide_eq_true_eq] at h
      obtain ⟨⟨⟨rfl, h3⟩, h4⟩, rfl, rfl⟩ := h
      have hSY := rowFrom_src hY hG h1 h2
      have hSX : Src ι w M es (.obj []) 0 (.slice none 0 0) := ⟨by simp [Chunk.size], .inl ⟨rfl, _, _, rfl⟩⟩
      have := append_core (P := P) (r := r) hR hn hR (fun _ h => h) hu hu' hz hb h0 hzr hzl hSX hSY (lenA_rel hY h2) (Nat.le_refl _) (by simpa using h3) (by simpa using hSY.1) (fun j _ => by simp) (ty := ty) (.inl ⟨rfl, rfl⟩)
      simpa [St.app] using this
    · simp at h
  · rename_i ee hh o n
    split at h
    · rename_i c1 r1 c2 r2 m h1 h2 h3
      split at h
      · rename_i r hcat
        simp only [Res.ok.injEq, Bool.and_eq_true, decide_eq_true_eq] at h
        obtain ⟨⟨⟨⟨rfl, rfl⟩, h4⟩, h5⟩, rfl, rfl⟩ := h
        have hSX := rowFrom_src hX hG h1 rfl
        have hSY := rowFrom_src hY hG h2 h3
        obtain ⟨q1, q2⟩ := cat_spec hcat
        have hadd : (n + m) * es = n * es + m * es := Nat.add_mul _ _ _
        have hget : ∃ c, s.get hh = some c := by
          simp only [rowFrom] at h1
          cases hg : s.get hh with
          | none => simp [hg] at h1
          | some c => exact ⟨c, rfl⟩
        obtain ⟨c, hg⟩ := hget
        have hee : ee = es := by
          simp only [rowFrom, hg] at h1
          cases c <;> simp only [Option.some.injEq, Prod.mk.injEq, Bool.and_eq_true, Nat.beq_eq_true_eq, reduceCtorEq] at h1
          · exact Nat.eq_of_beq_eq_true h1.1.1.1
          · exact Nat.eq_of_beq_eq_true h1.1.1.1
          · exact Nat.eq_of_beq_eq_true h1.1.1.1
        subst hee
        have hsub : ∀ b, Own ι ⟨s.next, (hh, none) :: s.m⟩ b → Own ι s b := fun b ho => by
          obtain ⟨j, c', base, k1, k2⟩ := ho
          rw [St.get_cons] at k1
          split at k1
          · cases k1
          · exact ⟨j, c', base, k1, k2⟩
        have hcore : ∀ A cap, X = .slice A n cap → n ≤ cap → ((A = none ∧ cap = 0) ∨ ∃ bb oo cs T fr, A = some ⟨bb, oo, none⟩ ∧ Own ι s bb ∧ w.heap[bb]? = some (.cells cs T fr) ∧ (∀ i, i < cs.size → ¬ (fr.1 ≤ i ∧ i < fr.2)) ∧ oo + cap * ee ≤ cs.size ∧ ¬ Own ι ⟨s.next, (hh, none) :: s.m⟩ bb) →
            Does P n0 ι s w M (Builtin.append_ #[t, t'] ty #[X, Y]) (.sl ee s.next 0 (n + m)) (s.app (.app hh r)) := by
          intro A cap hXe hle hA
          subst hXe
          have := append_core (P := P) (r := r) hR hn (hR.drop hh) hsub hu hu' hz hb h0 hzr hzl hSX hSY (lenA_rel hY h3) hle h4 (by rw [q1, hSX.1, hSY.1, hadd]) (fun j hj => by rw [q2 j hj, hSX.1]) (ty := ty) hA
          simpa [St.app] using this
        rcases hX.sl_inv with ⟨bb, base, oo, cap, T, N, hi', ho, hl, hs, hnn, rfl⟩ | ⟨hv, rfl, rfl⟩
        · rcases hR.own hh c hg with ⟨k1, _⟩ | ⟨b', base', k1, k2, cs, T', fr, k3, k4, k5, k6⟩
          · rw [hi'] at k1; cases k1
          · rw [hi'] at k1
            simp only [Option.some.injEq, Prod.mk.injEq] at k1
            obtain ⟨rfl, rfl⟩ := k1
            refine hcore _ cap rfl hl (.inr ⟨bb, oo, cs, T', fr, rfl, ⟨hh, c, base, hg, hi'⟩, k3, k4, ?_, fun ho => ?_⟩)
            · unfold World.shape? at hs
              rw [k3] at hs
              simp only [Option.some.injEq, Prod.mk.injEq] at hs
              omega
            · obtain ⟨j, c', base2, k7, k8⟩ := ho
              rw [St.get_cons] at k7
              split at k7
              · cases k7
              · rename_i hne
                exact hR.inj hh j c c' _ _ hg k7 hne hi' k8 rfl
        · exact hcore none 0 rfl (Nat.le_refl _) (.inl ⟨rfl, rfl⟩)
      · simp at h
    · simp at h
  · simp at h

end
end Go.Ab
