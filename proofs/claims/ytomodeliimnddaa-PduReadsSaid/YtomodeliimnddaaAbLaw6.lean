/- Statements of layer 3: any bytes are read as the document says. -/
import Derived.Test.YtomodeliimnddaaAbPlain2
import Derived.Test.YtomodeliimnddaaAbLaw5
set_option linter.unusedVariables false
set_option linter.unusedSimpArgs false
namespace Go.Proofs.Ytomodeliimnddaa
open Go.Ab
/- rung/runglaw3.PduReads -/
def a6 : ACode := (.seq (.reg [⟨(some 2), .mov (.c (.bool false)), none, false⟩])
 (.seq (.seq (.reg [⟨(some 8), .call 46 [], none, false⟩, ⟨(some 9), .un .not (.t 8), none, false⟩])
 (.cond (.t 9) (.seq (.reg [⟨(some 2), .mov (.c (.bool false)), none, false⟩])
 .ret)
 .skip))
 (.seq (.seq (.reg [⟨(some 10), .mov (.t 0), none, false⟩, ⟨(some 11), .len false (.t 10), none, false⟩, ⟨(some 12), .bin .gtr .other (.t 11) (.c (.int .i64 400)), none, false⟩])
 (.cond (.t 12) (.seq (.reg [⟨(some 2), .mov (.c (.bool true)), none, false⟩])
 .ret)
 .skip))
 (.seq (.reg [⟨(some 13), .mov (.t 0), none, false⟩, ⟨(some 14), .call 53 [(.t 13)], none, false⟩, ⟨(some 3), .mov (.t 14), none, false⟩])
 (.seq (.reg [⟨(some 16), .mov (.t 3), none, false⟩, ⟨(some 17), .call 51 [(.t 16)], none, false⟩, ⟨(some 15), .mov (.t 17), none, false⟩, ⟨(some 18), .ext (.t 15) 0, none, false⟩, ⟨(some 19), .ext (.t 15) 1, none, false⟩, ⟨(some 4), .alloc [(1, (.int .u8 0)), (3, (.int .u16 0)), (2, .nils)], none, false⟩, ⟨none, .store 6 (.t 4) (.t 18), none, false⟩, ⟨(some 5), .mov (.t 19), none, false⟩])
 (.seq (.reg [⟨(some 21), .mov (.t 0), none, false⟩, ⟨(some 22), .call 54 [(.t 21)], none, false⟩, ⟨(some 20), .mov (.t 22), none, false⟩, ⟨(some 23), .ext (.t 20) 0, none, false⟩, ⟨(some 24), .ext (.t 20) 1, none, false⟩, ⟨(some 6), .alloc [(1, (.int .u8 0)), (3, (.int .u16 0)), (2, .nils)], none, false⟩, ⟨none, .store 6 (.t 6) (.t 23), none, false⟩, ⟨(some 7), .mov (.t 24), none, false⟩])
 (.seq (.reg [⟨(some 25), .mov (.t 5), none, false⟩, ⟨(some 26), .mov (.t 7), none, false⟩, ⟨(some 27), .bin .eql .other (.t 25) (.t 26), none, false⟩, ⟨(some 28), .mov (.t 27), none, true⟩, ⟨(some 29), .load true 6 (.t 4), (some (28, true)), false⟩, ⟨(some 30), .load true 6 (.t 6), (some (28, true)), false⟩, ⟨(some 31), .call 52 [(.t 29), (.t 30)], (some (28, true)), false⟩, ⟨(some 32), .pick (.t 28) (.t 31) (.c (.bool false)), none, false⟩, ⟨(some 33), .mov (.t 32), none, true⟩, ⟨(some 34), .mov (.t 3), (some (33, true)), false⟩, ⟨(some 35), .mov (.t 0), (some (33, true)), false⟩, ⟨(some 36), .call 50 [(.t 34), (.t 35)], (some (33, true)), false⟩, ⟨(some 37), .pick (.t 33) (.t 36) (.c (.bool false)), none, false⟩, ⟨(some 2), .mov (.t 37), none, false⟩])
 .ret)))))))
def r6 : List ARes := [.t 2]
theorem c6 : compF Try.prog Try.f6 = some (a6, r6) := by kernel_rfl


theorem b6 : hasBody Try.prog 6 = true := by kernel_rfl
theorem g6 : Try.prog.funcs[6]? = some Try.f6 := by kernel_rfl
theorem decT_range (l : List Int) (o : Option (Rq × Bool)) (h : OkR o) : InR (decT l o).1 := by
  unfold decT
  split
  · exact ⟨by decide, by decide, by decide, by decide⟩
  · rename_i q sp
    split
    · exact h q sp rfl
    · exact ⟨by decide, by decide, by decide, by decide⟩
set_option maxRecDepth 20000 in
theorem law6 (l : List Int) (hB : ∀ x ∈ l, 0 ≤ x ∧ x < 256) : Ev Try.prog 6 [.roI .u8 l] (.bool true) := by
  refine FrzK.ev rfl (trF g6 b6 c6 ?_)
  conv => whnf
  refine Ev.call known3 ?_
  conv => whnf
  refine condS (fun h => ?_) (fun h => ?_)
  · conv => whnf
    exact FrzK.le (Le.refl _)
  conv => whnf
  have hl : l.length ≤ 400 := by simp at h; omega
  refine Ev.call (Ev.row rfl (copy_tr l (by omega))) ?_
  conv => whnf
  have hO := OpenRequest_ev l (by omega)
  have hS := rOpen_ev l (by omega)
  rw [dec_same l hB (by omega)] at hS
  have hR : InR (decS l).1 := by
    rw [← dec_same l hB (by omega)]
    exact decT_range l _ (rOpen_range l (by omega))
  generalize decS l = d at *
  obtain ⟨⟨f, a, n, a2, b, r⟩, e⟩ := d
  have hq := hreq_same f a n a2 b r (by have := hR.2.2.1; simp at this; omega) (by have := hR.2.2.2; simp at this; omega)
  refine Ev.call hO ?_
  conv => whnf
  refine Ev.call hS ?_
  conv => whnf
  refine condY (by simp) ?_
  conv => whnf
  refine Ev.call hq ?_
  conv => whnf
  refine Ev.call (bytes_same _) ?_
  conv => whnf
  exact FrzK.le (Le.refl _)
end Go.Proofs.Ytomodeliimnddaa
