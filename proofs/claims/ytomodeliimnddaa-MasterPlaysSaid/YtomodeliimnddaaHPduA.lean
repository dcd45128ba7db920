/- Contracts: pdu.request. Contracts: requests as bytes. Contracts: bytes read as requests: pdu. Contracts: bytes read as requests. Contracts: replies as bytes: pdu. Contracts: replies as bytes. Contracts: layer 3's examples. -/
import Derived.Test.YtomodeliimnddaaHEngD
set_option linter.unusedVariables false
set_option linter.unusedSimpArgs false
namespace Go.Proofs.Ytomodeliimnddaa
open Go.Ab
def a109 : ACode := (.seq (.reg [(iO 1 (.box (.t 0))), (iO 2 (.mov (.c .nils))), (iO 3 (.alloc [(1, (.int .u8 0)), (3, (.int .u16 0)), (2, .nils)])), (iO 4 (.mov (.c (.bool false))))])
 (.seq (.reg [(iF 9 0 1), (iL 10 9), (iF 11 1 1), (iL 12 11), (iO 13 (.build [(.int .u8 0), (.int .u16 0), (.int .u16 0), (.int .u16 0), .nils, .nils] [(0, 1, (.t 10)), (1, 1, (.t 12))])), (iO 5 (.alloc [(1, (.int .u8 0)), (3, (.int .u16 0)), (2, .nils)])), ⟨none, .store 6 (.t 5) (.t 13), none, false⟩])
 (.seq (.reg [(iF 14 0 1), (iL 15 14), (iO 16 (.bslice 1 (.int .u8) [(.int .u8 0)] [(0, 1, (.t 15))] 1)), (iF 17 1 1), (iL 18 17), (iO 19 (.call 146 [(.t 16), (.t 18)])), (iM 6 19)])
 (.seq (.seq (.reg [(iF 20 0 1), (iL 21 20)])
 (.block 0 (.seq (.seq (.reg [(iO 23 (.bin .eql .other (.t 21) (.c (.int .u8 1)))), (iM 22 23)])
 (.cond (.t 22) .skip
 (.reg [(iO 24 (.bin .eql .other (.t 21) (.c (.int .u8 2)))), (iM 22 24)])))
 (.cond (.t 22) (.seq (.reg [(iF 25 2 1), (iL 26 25), (iF 27 2 5), ⟨none, .store 1 (.t 27) (.t 26), none, false⟩])
 (.seq (.draw [(zS 0 (iM 28 6)), (zS 1 (iF 29 2 1)), (zS 2 (iL 30 29)), (zS 4 (iO 32 (.load true 6 (.t 5)))), (zS 5 (iF 33 2 1)), (zS 6 (iL 34 33)), ⟨3, (iO 31 (.call 146 [(.t 28), (.t 30)])), true, [], [(.t 5), (.t 33)]⟩, ⟨7, (iO 35 (.call 147 [(.t 34), (.c (.int .u16 2000))])), true, [], [(.t 5)]⟩, (zS 8 (iM 2 31)), ⟨9, ⟨none, .store 6 (.t 3) (.t 32), none, false⟩, true, [], []⟩, (zS 10 (iM 4 35))])
 .ret))
 (.seq (.seq (.reg [(iO 37 (.bin .eql .other (.t 21) (.c (.int .u8 3)))), (iM 36 37)])
 (.cond (.t 36) .skip
 (.reg [(iO 38 (.bin .eql .other (.t 21) (.c (.int .u8 4)))), (iM 36 38)])))
 (.cond (.t 36) (.seq (.reg [(iF 39 2 1), (iL 40 39), (iF 41 2 5), ⟨none, .store 1 (.t 41) (.t 40), none, false⟩])
 (.seq (.draw [(zS 0 (iM 42 6)), (zS 1 (iF 43 2 1)), (zS 2 (iL 44 43)), (zS 4 (iO 46 (.load true 6 (.t 5)))), (zS 5 (iF 47 2 1)), (zS 6 (iL 48 47)), ⟨3, (iO 45 (.call 146 [(.t 42), (.t 44)])), true, [], [(.t 5), (.t 47)]⟩, ⟨7, (iO 49 (.call 147 [(.t 48), (.c (.int .u16 125))])), true, [], [(.t 5)]⟩, (zS 8 (iM 2 45)), ⟨9, ⟨none, .store 6 (.t 3) (.t 46), none, false⟩, true, [], []⟩, (zS 10 (iM 4 49))])
 .ret))
 (.seq (.reg [(iO 51 (.bin .eql .other (.t 21) (.c (.int .u8 5)))), (iM 50 51)])
 (.cond (.t 50) (.seq (.reg [(iF 52 4 1), (iL 53 52), (iF 54 4 5), ⟨none, .store 1 (.t 54) (.t 53), none, false⟩])
 (.seq (.draw [(zS 0 (iM 55 6)), (zS 1 (iF 56 4 1)), (zS 2 (iL 57 56)), (zS 3 (iO 58 (.len false (.t 57)))), (zS 4 (iO 59 (.bin .eql .other (.t 58) (.c (.int .i64 1))))), ⟨5, ⟨(some 60), .mov (.t 59), none, true⟩, false, [], []⟩, (zS 6 (iG 61 (.fld 4 1 false (.t 1)) 60 true)), (zS 7 (iG 62 (.load false 1 (.t 61)) 60 true)), (zS 8 (iG 63 (.idx 1 none false (.t 62) (.c (.int .i64 0))) 60 true)), (zS 9 (iG 64 (.load false 1 (.t 63)) 60 true)), (zS 10 (iO 65 (.pick (.t 60) (.t 64) (.c (.bool false))))), (zS 12 (iO 67 (.load true 6 (.t 5)))), (zS 13 (iF 68 4 1)), (zS 14 (iL 69 68)), (zS 15 (iO 70 (.len false (.t 69)))), (zS 16 (iO 71 (.bin .eql .other (.t 70) (.c (.int .i64 1))))), ⟨11, (iO 66 (.call 148 [(.t 55), (.t 65)])), true, [], [(.t 5), (.t 68)]⟩, (zS 17 (iM 2 66)), ⟨18, ⟨none, .store 6 (.t 3) (.t 67), none, false⟩, true, [], [(.t 68)]⟩, (zS 19 (iM 4 71))])
 .ret))
 (.seq (.seq (.reg [(iO 73 (.bin .eql .other (.t 21) (.c (.int .u8 6)))), (iM 72 73)])
 (.cond (.t 72) .skip
 (.reg [(iO 74 (.bin .eql .other (.t 21) (.c (.int .u8 22)))), (iM 72 74)])))
 (.cond (.t 72) (.seq (.reg [(iF 75 5 1), (iL 76 75), (iF 77 5 5), ⟨none, .store 1 (.t 77) (.t 76), none, false⟩])
 (.seq (.reg [(iO 7 (.mov (.c (.int .i64 1))))])
 (.seq (.seq (.reg [(iF 78 0 1), (iL 79 78), (iO 80 (.bin .eql .other (.t 79) (.c (.int .u8 22))))])
 (.cond (.t 80) (.reg [(iO 7 (.mov (.c (.int .i64 2))))])
 .skip))
 (.seq (.draw [(zS 0 (iM 81 6)), (zS 1 (iF 82 5 1)), (zS 2 (iL 83 82)), (zS 4 (iO 85 (.load true 6 (.t 5)))), (zS 5 (iF 86 5 1)), (zS 6 (iL 87 86)), (zS 7 (iO 88 (.len false (.t 87)))), (zS 8 (iM 89 7)), (zS 9 (iO 90 (.bin .eql .other (.t 88) (.t 89)))), ⟨3, (iO 84 (.call 149 [(.t 81), (.t 83)])), true, [], [(.t 5), (.t 86)]⟩, (zS 10 (iM 2 84)), ⟨11, ⟨none, .store 6 (.t 3) (.t 85), none, false⟩, true, [], [(.t 86)]⟩, (zS 12 (iM 4 90))])
 .ret))))
 (.seq (.reg [(iO 92 (.bin .eql .other (.t 21) (.c (.int .u8 15)))), (iM 91 92)])
 (.cond (.t 91) (.seq (.reg [(iF 93 4 1), (iL 94 93), (iF 95 4 5), ⟨none, .store 1 (.t 95) (.t 94), none, false⟩])
 (.seq (.reg [(iF 96 4 1), (iL 97 96), (iO 98 (.call 61 [(.t 97)])), (iM 8 98)])
 (.seq (.reg [(iM 99 6), (iF 100 4 1), (iL 101 100), (iO 102 (.len false (.t 101))), (iO 103 (.conv (.int .u16) (.t 102))), (iO 104 (.call 146 [(.t 99), (.t 103)])), (iM 105 8), (iO 106 (.len false (.t 105))), (iO 107 (.conv (.int .u8) (.t 106))), (iO 108 (.bslice 1 (.int .u8) [(.int .u8 0)] [(0, 1, (.t 107))] 1)), (iO 109 (.app 1 1 (.t 104) (.t 108))), (iM 6 109)])
 (.seq (.draw [(zS 0 (iM 110 6)), (zS 1 (iM 111 8)), (zS 3 (iO 113 (.load true 6 (.t 5)))), (zS 4 (iF 114 4 1)), (zS 5 (iL 115 114)), (zS 6 (iO 116 (.len false (.t 115)))), ⟨2, (iO 112 (.app 1 1 (.t 110) (.t 111))), true, [], [(.t 5), (.t 114)]⟩, ⟨7, (iO 117 (.call 150 [(.t 116), (.c (.int .i64 1968))])), true, [], [(.t 5)]⟩, (zS 8 (iM 2 112)), ⟨9, ⟨none, .store 6 (.t 3) (.t 113), none, false⟩, true, [], []⟩, (zS 10 (iM 4 117))])
 .ret))))
 (.seq (.reg [(iO 119 (.bin .eql .other (.t 21) (.c (.int .u8 16)))), (iM 118 119)])
 (.cond (.t 118) (.seq (.reg [(iF 120 5 1), (iL 121 120), (iF 122 5 5), ⟨none, .store 1 (.t 122) (.t 121), none, false⟩])
 (.seq (.draw [(zS 0 (iM 123 6)), (zS 1 (iF 124 5 1)), (zS 2 (iL 125 124)), (zS 3 (iO 126 (.len false (.t 125)))), (zS 4 (iO 127 (.conv (.int .u16) (.t 126)))), (zS 6 (iF 129 5 1)), (zS 7 (iL 130 129)), (zS 8 (iO 131 (.len false (.t 130)))), (zS 9 (iO 132 (.bin .mul .other (.c (.int .i64 2)) (.t 131)))), (zS 10 (iO 133 (.conv (.int .u8) (.t 132)))), (zS 11 (iO 134 (.bslice 1 (.int .u8) [(.int .u8 0)] [(0, 1, (.t 133))] 1))), ⟨5, (iO 128 (.call 146 [(.t 123), (.t 127)])), true, [], [(.t 129)]⟩, ⟨12, (iO 135 (.app 1 1 (.t 128) (.t 134))), true, [11], []⟩, (zS 13 (iM 6 135))])
 (.seq (.draw [(zS 0 (iM 136 6)), (zS 1 (iF 137 5 1)), (zS 2 (iL 138 137)), (zS 4 (iO 140 (.load true 6 (.t 5)))), (zS 5 (iF 141 5 1)), (zS 6 (iL 142 141)), (zS 7 (iO 143 (.len false (.t 142)))), ⟨3, (iO 139 (.call 149 [(.t 136), (.t 138)])), true, [], [(.t 5), (.t 141)]⟩, ⟨8, (iO 144 (.call 150 [(.t 143), (.c (.int .i64 123))])), true, [], [(.t 5)]⟩, (zS 9 (iM 2 139)), ⟨10, ⟨none, .store 6 (.t 3) (.t 140), none, false⟩, true, [], []⟩, (zS 11 (iM 4 144))])
 .ret)))
 (.seq (.reg [(iO 146 (.bin .eql .other (.t 21) (.c (.int .u8 23)))), (iM 145 146)])
 (.cond (.t 145) (.seq (.draw [(zS 0 (iF 147 2 1)), (zS 1 (iL 148 147)), (zS 2 (iF 149 3 1)), (zS 3 (iL 150 149)), (zS 4 (iF 151 5 1)), (zS 5 (iL 152 151)), (zS 6 (iF 153 2 5)), ⟨7, ⟨none, .store 1 (.t 153) (.t 148), none, false⟩, true, [], [(.t 149), (.t 151)]⟩, (zS 8 (iF 154 3 5)), ⟨9, ⟨none, .store 1 (.t 154) (.t 150), none, false⟩, true, [], [(.t 151)]⟩, (zS 10 (iF 155 5 5)), ⟨11, ⟨none, .store 1 (.t 155) (.t 152), none, false⟩, true, [], []⟩])
 (.seq (.draw [(zS 0 (iM 156 6)), (zS 1 (iF 157 2 1)), (zS 2 (iL 158 157)), (zS 4 (iF 160 3 1)), (zS 5 (iL 161 160)), ⟨3, (iO 159 (.call 146 [(.t 156), (.t 158)])), true, [], [(.t 160)]⟩, ⟨6, (iO 162 (.call 146 [(.t 159), (.t 161)])), true, [], []⟩, (zS 7 (iM 6 162))])
 (.seq (.draw [(zS 0 (iM 163 6)), (zS 1 (iF 164 5 1)), (zS 2 (iL 165 164)), (zS 3 (iO 166 (.len false (.t 165)))), (zS 4 (iO 167 (.conv (.int .u16) (.t 166)))), (zS 6 (iF 169 5 1)), (zS 7 (iL 170 169)), (zS 8 (iO 171 (.len false (.t 170)))), (zS 9 (iO 172 (.bin .mul .other (.c (.int .i64 2)) (.t 171)))), (zS 10 (iO 173 (.conv (.int .u8) (.t 172)))), (zS 11 (iO 174 (.bslice 1 (.int .u8) [(.int .u8 0)] [(0, 1, (.t 173))] 1))), ⟨5, (iO 168 (.call 146 [(.t 163), (.t 167)])), true, [], [(.t 169)]⟩, ⟨12, (iO 175 (.app 1 1 (.t 168) (.t 174))), true, [11], []⟩, (zS 13 (iM 6 175))])
 (.seq (.draw [(zS 0 (iM 176 6)), (zS 1 (iF 177 5 1)), (zS 2 (iL 178 177)), (zS 4 (iO 180 (.load true 6 (.t 5)))), (zS 5 (iF 181 2 1)), (zS 6 (iL 182 181)), (zS 7 (iO 183 (.conv (.int .i64) (.t 182)))), ⟨3, (iO 179 (.call 149 [(.t 176), (.t 178)])), true, [], [(.t 5), (.t 181)]⟩, ⟨8, (iO 184 (.call 150 [(.t 183), (.c (.int .i64 125))])), true, [], [(.t 5)]⟩, ⟨9, ⟨(some 185), .mov (.t 184), none, true⟩, false, [], []⟩, (zS 10 (iG 186 (.fld 5 1 false (.t 1)) 185 true)), (zS 11 (iG 187 (.load false 1 (.t 186)) 185 true)), (zS 12 (iG 188 (.len false (.t 187)) 185 true)), ⟨13, (iG 189 (.call 150 [(.t 188), (.c (.int .i64 121))]) 185 true), true, [], [(.t 5)]⟩, (zS 14 (iO 190 (.pick (.t 185) (.t 189) (.c (.bool false))))), (zS 15 (iM 2 179)), ⟨16, ⟨none, .store 6 (.t 3) (.t 180), none, false⟩, true, [], []⟩, (zS 17 (iM 4 190))])
 .ret))))
 .skip))))))))))))))))
 (.seq (.draw [(zS 0 (iO 191 (.load true 6 (.t 5)))), (zS 1 (iO 2 (.mov (.c .nils)))), ⟨2, ⟨none, .store 6 (.t 3) (.t 191), none, false⟩, true, [], []⟩, (zS 3 (iO 4 (.mov (.c (.bool false)))))])
 .ret)))))
def r109 : List ARes := [.t 2, .cell 3 true 6, .t 4]
theorem c109 : compF Try.prog Try.f109 = some (a109, r109) := by kernel_rfl
theorem b109 : hasBody Try.prog 109 = true := by kernel_rfl
theorem g109 : Try.prog.funcs[109]? = some Try.f109 := by kernel_rfl
def pre3 (f a : Int) : List Int := [f] ++ two8 a
structure ReqS where
  row : List Int
  n : Int
  a2 : Int
  b : List Bool
  r : List Int
  ok : Bool
def row15 (f a : Int) (b : List Bool) : List Int := pre3 f a ++ two8 (IntKind.u16.wrap b.length) ++ [IntKind.u8.wrap ((b.length + 7) / 8 : Nat)] ++ packN b b.length
def rowR (p : List Int) (r : List Int) : List Int := p ++ two8 (IntKind.u16.wrap r.length) ++ [IntKind.u8.wrap (IntKind.i64.wrap (2 * r.length))] ++ twos r
def reqS (f a n a2 : Int) (b : List Bool) (r : List Int) : ReqS :=
  if f == 1 then ⟨pre3 f a ++ two8 n, n, 0, [], [], withinB n 2000⟩
  else if f == 2 then ⟨pre3 f a ++ two8 n, n, 0, [], [], withinB n 2000⟩
  else if f == 3 then ⟨pre3 f a ++ two8 n, n, 0, [], [], withinB n 125⟩
  else if f == 4 then ⟨pre3 f a ++ two8 n, n, 0, [], [], withinB n 125⟩
  else if f == 5 then ⟨pre3 f a ++ two8 (coilN ((b.length : Int) == 1 && b.getD 0 false)), 0, 0, b, [], (b.length : Int) == 1⟩
  else if f == 6 then ⟨pre3 f a ++ twos r, 0, 0, [], r, (r.length : Int) == 1⟩
  else if f == 22 then ⟨pre3 f a ++ twos r, 0, 0, [], r, (r.length : Int) == 2⟩
  else if f == 15 then ⟨row15 f a b, 0, 0, b, [], withinB b.length 1968⟩
  else if f == 16 then ⟨rowR (pre3 f a) r, 0, 0, [], r, withinB r.length 123⟩
  else if f == 23 then ⟨rowR (pre3 f a ++ two8 n ++ two8 a2) r, n, a2, [], r, withinB n 125 && withinB r.length 121⟩
  else ⟨[], 0, 0, [], [], false⟩
theorem two_len (l : List Int) (x : Int) : (l ++ two8 x).length = l.length + 2 := by simp [two8]
theorem two_call {h len : Nat} {l : List Int} {x : Int} {s : St} {K : AV → St → Prop} (hg : s.get h = some (.rowI .u8 l)) (hl : len = l.length) (hb : l.length ≤ 100000)
    (k : openS s fun n m => K (.sl 1 n 0 (l ++ two8 x).length) ⟨n + 1, (n, some (.rowI .u8 (l ++ two8 x))) :: (h, none) :: m⟩) : Tr Try.prog 146 [.sl 1 h 0 len, .int .u16 x] s K :=
  rowCall (by rw [two_len]; exact two_tr l x hb) rfl hg hl k
theorem regs_len (l m : List Int) : (l ++ twos m).length = l.length + 2 * m.length := by simp [twos_length]
theorem regs_call {h len : Nat} {l m : List Int} {s : St} {K : AV → St → Prop} (hg : s.get h = some (.rowI .u8 l)) (hl : len = l.length) (hb : l.length ≤ 30000) (hm : m.length ≤ 30000)
    (k : openS s fun n t => K (.sl 1 n 0 (l ++ twos m).length) ⟨n + 1, (n, some (.rowI .u8 (l ++ twos m))) :: (h, none) :: t⟩) : Tr Try.prog 149 [.sl 1 h 0 len, .roI .u16 m] s K :=
  rowCall (by rw [regs_len]; exact regs_tr l m hb hm) rfl hg hl k
theorem coil_ev (l : List Int) (b : Bool) (hl : l.length ≤ 100000) : Tr Try.prog 148 [.sl 1 0 0 l.length, .bool b] ⟨1, [(0, some (.rowI .u8 l))]⟩ fun v s => v = .sl 1 1 0 (l ++ two8 (coilN b)).length ∧ s = ⟨2, [(1, some (.rowI .u8 (l ++ two8 (coilN b))))]⟩ := by
  refine Tr.norm (coil_tr l b hl) fun v s ⟨hv, hs⟩ => ?_
  subst hv; subst hs
  rw [two_len]
  refine ⟨_, _, ?_, rfl, rfl⟩
  exact ⟨[], rfl, rfl, rfl, ⟨⟨rfl, rfl⟩, trivial⟩, ⟨⟨trivial, rfl, rfl⟩, trivial⟩⟩
theorem coil_call {h len : Nat} {l : List Int} {b : Bool} {s : St} {K : AV → St → Prop} (hg : s.get h = some (.rowI .u8 l)) (hl : len = l.length) (hb : l.length ≤ 100000)
    (k : openS s fun n m => K (.sl 1 n 0 (l ++ two8 (coilN b)).length) ⟨n + 1, (n, some (.rowI .u8 (l ++ two8 (coilN b)))) :: (h, none) :: m⟩) : Tr Try.prog 148 [.sl 1 h 0 len, .bool b] s K :=
  rowCall (coil_ev l b hb) rfl hg hl k
theorem pack_ev (l : List Bool) (hl : l.length ≤ 100000) : Ev Try.prog 61 [.roB l] (.roI .u8 (packN l l.length)) := Ev.row rfl (by rw [packN_length]; exact pack_tr l hl)
theorem within_ev (n m : Int) : Ev Try.prog 150 [.int .i64 n, .int .i64 m] (.bool (withinB n m)) := ⟨rfl, within_tr n m⟩
theorem within16_ev (n m : Int) : Ev Try.prog 147 [.int .u16 n, .int .u16 m] (.bool (withinB n m)) := ⟨rfl, within16_tr n m⟩
def RawK (row : List Int) (rest : List AV) (v : AV) (s : St) : Prop := ∃ v', Le v v' ∧ ((∃ h, v' = .tup (.sl 1 h 0 row.length :: rest) ∧ s.get h = some (.rowI .u8 row)) ∨ (row = [] ∧ v' = .tup (.nils :: rest)))
attribute [irreducible] RawK
def reqR (f a : Int) (q : ReqS) : List AV := [reqA f a q.n q.a2 (.roB q.b) (.roI .u16 q.r), .bool q.ok]
theorem RawK.req {f a n a2 : Int} {q : ReqS} {B R : AV} {s : St} {h len : Nat} {ok : Bool} {l : List Int} (hg : s.get h = some (.rowI .u8 l)) (he : l = q.row) (hl : len = l.length) (hn : n = q.n) (ha : a2 = q.a2) (hb : Le B (.roB q.b)) (hr : Le R (.roI .u16 q.r)) (hok : ok = q.ok) :
    RawK q.row (reqR f a q) (.tup [.sl 1 h 0 len, reqA f a n a2 B R, .bool ok]) s := by
  subst hl; subst he; subst hn; subst ha; subst hok
  unfold RawK
  refine ⟨_, ?_, .inl ⟨h, rfl, hg⟩⟩
  exact Le.tup ⟨Le.refl _, Le.agg ⟨Le.refl _, Le.refl _, Le.refl _, Le.refl _, hb, hr, trivial⟩, Le.refl _, trivial⟩
theorem RawK.req0 {f a n a2 : Int} {q : ReqS} {B R : AV} {s : St} {ok : Bool} (hg : q.row = []) (hn : n = q.n) (ha : a2 = q.a2) (hb : Le B (.roB q.b)) (hr : Le R (.roI .u16 q.r)) (hok : ok = q.ok) :
    RawK q.row (reqR f a q) (.tup [.nils, reqA f a n a2 B R, .bool ok]) s := by
  subst hn; subst ha; subst hok
  unfold RawK
  refine ⟨_, ?_, .inr ⟨hg, rfl⟩⟩
  exact Le.tup ⟨Le.refl _, Le.agg ⟨Le.refl _, Le.refl _, Le.refl _, Le.refl _, hb, hr, trivial⟩, Le.refl _, trivial⟩
theorem request_raw (f a n a2 : Int) (b : List Bool) (r : List Int) (hn0 : 0 ≤ n) (hn1 : n < 65536) (hb : b.length ≤ 2500) (hr : r.length ≤ 500) : Tr Try.prog 109 [reqA f a n a2 (.roB b) (.roI .u16 r)] ⟨0, []⟩ (RawK (reqS f a n a2 b r).row (reqR f a (reqS f a n a2 b r))) := by
  have hw : IntKind.i64.wrap n = n := IntWalk.i64_in _ (by omega)
  refine trF g109 b109 c109 ?_
  conv => whnf
  repeat' (first
    | (refine condY (by assumption) ?_; conv => whnf)
    | (refine condN (by assumption) ?_; conv => whnf)
    | (refine condT (by first | assumption | (simp [twos_length, packN_length, two8]; done) | (simp [twos_length, packN_length, two8]; omega) | (simp_all; done) | (simp_all; omega)) ?_; conv => whnf)
    | (refine condF (fun h => ?_) (fun h => ?_) <;> conv => whnf)
    | (refine ⟨rfl, ?_⟩; conv => whnf)
    | (refine two_call rfl (by first | (simp [twos_length, packN_length, two8]; done) | (simp [twos_length, packN_length, two8]; omega) | omega) (by first | (simp [twos_length, packN_length, two8]; done) | (simp [twos_length, packN_length, two8]; omega) | omega) ?_; conv => whnf)
    | (refine coil_call rfl (by first | (simp [twos_length, packN_length, two8]; done) | (simp [twos_length, packN_length, two8]; omega) | omega) (by first | (simp [twos_length, packN_length, two8]; done) | (simp [twos_length, packN_length, two8]; omega) | omega) ?_; conv => whnf)
    | (refine regs_call rfl (by first | (simp [twos_length, packN_length, two8]; done) | (simp [twos_length, packN_length, two8]; omega) | omega) (by first | (simp [twos_length, packN_length, two8]; done) | (simp [twos_length, packN_length, two8]; omega) | omega) (by omega) ?_; conv => whnf)
    | (refine Ev.call (within16_ev _ _) ?_; conv => whnf)
    | (refine Ev.call (within_ev _ _) ?_; conv => whnf)
    | (refine Ev.call (pack_ev _ (by omega)) ?_; conv => whnf)
    )
  all_goals (generalize hq : reqS f a n a2 b r = q; simp only [reqS, *, if_true, if_false, Bool.false_eq_true, Bool.true_and, Bool.false_and] at hq; subst hq)
  all_goals try (rw [hw] at *)
  all_goals first
    | (exfalso; have h1 : f = 6 := eq_of_beq (by assumption); have h2 : f = 22 := eq_of_beq (by assumption); omega)
    | exact RawK.req rfl (by first | rfl | (simp [row15, rowR, pre3, packN_length, coilN, two8]; done)) (by first | rfl | (simp [twos_length, packN_length, two8]; done) | (simp [twos_length, packN_length, two8]; omega)) rfl rfl (by first | exact Le.refl _ | exact Le.nilB) (by first | exact Le.refl _ | exact Le.nilI _) (by first | rfl | (simp [*]; done))
    | exact RawK.req0 rfl rfl rfl (by first | exact Le.refl _ | exact Le.nilB) (by first | exact Le.refl _ | exact Le.nilI _) rfl
theorem request_tr (f a n a2 : Int) (b : List Bool) (r : List Int) (hn0 : 0 ≤ n) (hn1 : n < 65536) (hb : b.length ≤ 2500) (hr : r.length ≤ 500) :
    Tr Try.prog 109 [reqA f a n a2 (.roB b) (.roI .u16 r)] ⟨0, []⟩ (Ret1 (reqS f a n a2 b r).row (reqR f a (reqS f a n a2 b r))) :=
  Ret1.of rfl ((request_raw f a n a2 b r hn0 hn1 hb hr).mono fun v s h => by unfold RawK at h; exact h)
end Go.Proofs.Ytomodeliimnddaa
set_option linter.unusedVariables false
set_option linter.unusedSimpArgs false
namespace Go.Proofs.Ytomodeliimnddaa
open Go.Ab
def a111 : ACode := (.seq (.reg [(iO 4 (.mov (.c .nils)))])
 (.seq (.seq (.reg [(iO 5 (.mov (.c (.int .i64 0))))])
 (.block 0 (.loop (.seq (.seq (.reg [(iM 6 5), (iM 7 1), (iO 8 (.len false (.t 7))), (iO 9 (.bin .lss .other (.t 6) (.t 8)))])
 (.cond (.t 9) .skip
 (.exit 0)))
 (.seq (.block 1 (.draw [(zS 0 (iM 12 0)), (zS 1 (iM 13 1)), (zS 2 (iM 14 5)), (zS 3 (iO 15 (.idx 1 none false (.t 13) (.t 14)))), (zS 4 (iL 16 15)), (zS 5 (iO 17 (.bin .shr .other (.t 16) (.c (.int .u64 8))))), (zS 6 (iO 18 (.conv (.int .u8) (.t 17)))), (zS 7 (iM 19 1)), (zS 8 (iM 20 5)), (zS 9 (iO 21 (.idx 1 none false (.t 19) (.t 20)))), (zS 10 (iL 22 21)), (zS 11 (iO 23 (.conv (.int .u8) (.t 22)))), (zS 12 (iO 24 (.bslice 1 (.int .u8) [(.int .u8 0), (.int .u8 0)] [(0, 1, (.t 18)), (1, 1, (.t 23))] 2))), ⟨13, (iO 25 (.app 1 1 (.t 12) (.t 24))), true, [12], []⟩, (zS 14 (iM 0 25))]))
 (.reg [(iM 10 5), (iO 11 (.bin .add .other (.t 10) (.c (.int .i64 1)))), (iM 5 11)]))))))
 (.seq (.reg [(iM 26 0), (iM 4 26)])
 .ret)))
def r111 : List ARes := [.t 4]
theorem c111 : compF Try.prog Try.f111 = some (a111, r111) := by kernel_rfl
theorem b111 : hasBody Try.prog 111 = true := by kernel_rfl
theorem g111 : Try.prog.funcs[111]? = some Try.f111 := by kernel_rfl
def a112 : ACode := (.seq (.reg [(iO 6 (.mov (.c (.bool false))))])
 (.seq (.reg [(iM 7 0), (iM 8 1), (iO 9 (.bin .geq .other (.t 7) (.t 8))), ⟨(some 10), .mov (.t 9), none, true⟩, (iG 11 (.mov (.t 0)) 10 true), (iG 12 (.mov (.t 2)) 10 true), (iG 13 (.bin .leq .other (.t 11) (.t 12)) 10 true), (iO 14 (.pick (.t 10) (.t 13) (.c (.bool false)))), (iM 6 14)])
 .ret))
def r112 : List ARes := [.t 6]
theorem c112 : compF Try.prog Try.f112 = some (a112, r112) := by kernel_rfl
theorem b112 : hasBody Try.prog 112 = true := by kernel_rfl
theorem g112 : Try.prog.funcs[112]? = some Try.f112 := by kernel_rfl
def a113 : ACode := (.seq (.reg [(iO 2 (.mov (.c (.int .u16 0))))])
 (.seq (.seq (.reg [(iM 3 0)])
 (.cond (.t 3) (.seq (.reg [(iO 2 (.mov (.c (.int .u16 65280))))])
 .ret)
 .skip))
 (.seq (.reg [(iO 2 (.mov (.c (.int .u16 0))))])
 .ret)))
def r113 : List ARes := [.t 2]
theorem c113 : compF Try.prog Try.f113 = some (a113, r113) := by kernel_rfl
theorem b113 : hasBody Try.prog 113 = true := by kernel_rfl
theorem g113 : Try.prog.funcs[113]? = some Try.f113 := by kernel_rfl
theorem one_ev (b : Bool) : Ev Try.prog 113 [.bool b] (.int .u16 (coilN b)) := by
  refine ⟨rfl, trF g113 b113 c113 ?_⟩
  cases b <;> (conv => whnf) <;> exact ⟨rfl, rfl⟩
def within3 (n a b : Int) : Bool := decide (a ≤ n) && decide (n ≤ b)
theorem within3_ev (n a b : Int) : Ev Try.prog 112 [.int .i64 n, .int .i64 a, .int .i64 b] (.bool (within3 n a b)) := by
  refine ⟨rfl, trF g112 b112 c112 ?_⟩
  conv => whnf
  refine condS (fun h => ?_) (fun h => ?_)
  · conv => whnf
    exact ⟨by simp only [within3]; simp at h; simp [h], rfl⟩
  · conv => whnf
    exact ⟨by simp only [within3]; simp at h; simp; omega, rfl⟩
theorem rtwo_tr (l m : List Int) (hl : l.length ≤ 30000) (hm : m.length ≤ 30000) : Tr Try.prog 111 [.sl 1 0 0 l.length, .roI .u16 m] ⟨1, [(0, some (.rowI .u8 l))]⟩ fun v s => v = .sl 1 1 0 (l ++ twos m).length ∧ s = ⟨2, [(1, some (.rowI .u8 (l ++ twos m)))]⟩ := by
  refine trF g111 b111 c111 ?_
  conv => whnf
  refine loopI (α := {i : Nat // i ≤ m.length}) (fun i => [(0, .sl 1 1 0 (l ++ twos (m.take i.1)).length), (1, .roI .u16 m), (5, .int .i64 i.1)]) (fun i => ⟨2, [(1, some (.rowI .u8 (l ++ twos (m.take i.1))))]⟩) (fun i => m.length - i.1) ⟨0, Nat.zero_le _⟩
    ⟨[(1, some 0)], rfl, rfl, rfl, ⟨⟨?_, rfl⟩, ⟨rfl, rfl⟩, ⟨rfl, rfl⟩, trivial⟩, ⟨trivial, rfl, by simp [twos, Chunk.ren]; rfl⟩, trivial⟩ fun ⟨i, hi⟩ => ?_
  · show AV.sl 1 0 0 l.length = AV.sl 1 0 0 (l ++ twos (m.take 0)).length
    simp [twos]
  conv => whnf
  by_cases hlt : i < m.length
  · refine condY (by simpa using hlt) ?_
    conv => whnf
    refine condT (by simpa using hlt) ?_
    conv => whnf
    refine condT (by simpa using hlt) ?_
    conv => whnf
    have hlen : (l ++ twos (m.take i)).length = l.length + 2 * i := by simp [twos_length]; omega
    refine condT (by simp [hlen]; omega) ?_
    conv => whnf
    have key : (l ++ twos (m.take i)) ++ two8 (m.getD i 0) = l ++ twos (m.take (i + 1)) := by rw [twos_take m i hlt, List.append_assoc]
    refine ⟨⟨i + 1, hlt⟩, ⟨[(1, some 3)], rfl, rfl, rfl, ⟨⟨?_, rfl⟩, ⟨rfl, rfl⟩, ⟨?_, rfl⟩, trivial⟩, ⟨⟨trivial, rfl, ?_⟩, trivial⟩⟩, by show m.length - (i + 1) < m.length - i; omega⟩
    · show AV.sl 1 3 0 ((l ++ twos (m.take i)).length + 2) = AV.sl 1 3 0 (l ++ twos (m.take (i + 1))).length
      rw [← key]; simp [two8]; omega
    · show AV.int .i64 (IntKind.i64.wrap ((i : Int) + 1)) = AV.int .i64 ((i + 1 : Nat) : Int)
      rw [IntWalk.i64_in _ (by omega)]; rfl
    · show some (Chunk.rowI .u8 (List.take (l ++ twos (m.take i)).length (List.drop 0 (l ++ twos (m.take i))) ++ List.take 2 (List.drop 0 (two8 (m.getD i 0))))) = some (Chunk.rowI .u8 (l ++ twos (m.take (i + 1))))
      rw [← key, List.drop_zero, List.take_length]; rfl
  · refine condN (by simpa using hlt) ?_
    conv => whnf
    have : i = m.length := by omega
    subst this
    refine ⟨by simp, by simp⟩
def a48 : ACode := (.seq (.reg [(iO 1 (.box (.t 0))), (iO 2 (.mov (.c .nils))), (iO 3 (.mov (.c (.int .i64 0))))])
 (.seq (.reg [(iO 8 (.load true 6 (.t 1))), (iO 9 (.call 109 [(.t 8)])), (iM 7 9), (iO 10 (.ext (.t 7) 0)), (iO 11 (.ext (.t 7) 1)), (iO 12 (.ext (.t 7) 2)), (iO 5 (.alloc [(1, (.int .u8 0)), (3, (.int .u16 0)), (2, .nils)])), (iM 4 10), ⟨none, .store 6 (.t 5) (.t 11), none, false⟩, (iM 6 12)])
 (.seq (.seq (.reg [(iM 13 6), (iO 14 (.un .not (.t 13))), ⟨(some 15), .mov (.t 14), none, true⟩, (iG 16 (.load true 6 (.t 1)) 15 false), (iG 17 (.load true 6 (.t 5)) 15 false), (iG 18 (.call 110 [(.t 16), (.t 17)]) 15 false), (iG 19 (.un .not (.t 18)) 15 false), (iO 20 (.pick (.t 15) (.c (.bool true)) (.t 19)))])
 (.cond (.t 20) (.seq (.reg [(iO 2 (.mov (.c .nils))), (iO 3 (.mov (.c (.int .i64 30))))])
 .ret)
 .skip))
 (.seq (.reg [(iM 21 4), (iM 2 21), (iO 3 (.mov (.c (.int .i64 0))))])
 .ret))))
def r48 : List ARes := [.t 2, .t 3]
theorem c48 : compF Try.prog Try.f48 = some (a48, r48) := by kernel_rfl
theorem b48 : hasBody Try.prog 48 = true := by kernel_rfl
theorem g48 : Try.prog.funcs[48]? = some Try.f48 := by kernel_rfl
def a49 : ACode := (.seq (.reg [(iO 1 (.box (.t 0))), (iO 2 (.mov (.c .nils))), (iO 3 (.mov (.c (.int .i64 0))))])
 (.seq (.draw [(zS 0 (iF 9 2 1)), (zS 1 (iL 10 9)), (zS 2 (iO 11 (.conv (.int .i64) (.t 10)))), (zS 3 (iF 12 4 1)), (zS 4 (iL 13 12)), (zS 5 (iO 14 (.len false (.t 13)))), (zS 6 (iF 15 5 1)), (zS 7 (iL 16 15)), (zS 8 (iO 17 (.len false (.t 16)))), (zS 9 (iM 4 11)), (zS 10 (iM 5 14)), (zS 11 (iM 6 17))])
 (.seq (.reg [(iF 18 0 1), (iL 19 18), (iO 20 (.bslice 1 (.int .u8) [(.int .u8 0)] [(0, 1, (.t 19))] 1)), (iF 21 1 1), (iL 22 21), (iO 23 (.bslice 1 (.int .u16) [(.int .u16 0)] [(0, 1, (.t 22))] 1)), (iO 24 (.call 111 [(.t 20), (.t 23)])), (iM 7 24)])
 (.seq (.reg [(iO 8 (.mov (.c (.bool false))))])
 (.seq (.seq (.reg [(iF 25 0 1), (iL 26 25)])
 (.block 0 (.seq (.seq (.reg [(iO 28 (.bin .eql .other (.t 26) (.c (.int .u8 1)))), (iM 27 28)])
 (.cond (.t 27) .skip
 (.reg [(iO 29 (.bin .eql .other (.t 26) (.c (.int .u8 2)))), (iM 27 29)])))
 (.cond (.t 27) (.seq (.reg [(iM 30 4), (iO 31 (.call 112 [(.t 30), (.c (.int .i64 1)), (.c (.int .i64 2000))])), ⟨(some 32), .mov (.t 31), none, true⟩, (iG 33 (.mov (.t 5)) 32 true), (iG 34 (.bin .eql .other (.t 33) (.c (.int .i64 0))) 32 true), (iO 35 (.pick (.t 32) (.t 34) (.c (.bool false)))), ⟨(some 36), .mov (.t 35), none, true⟩, (iG 37 (.mov (.t 6)) 36 true), (iG 38 (.bin .eql .other (.t 37) (.c (.int .i64 0))) 36 true), (iO 39 (.pick (.t 36) (.t 38) (.c (.bool false)))), ⟨(some 40), .mov (.t 39), none, true⟩, (iG 41 (.fld 3 1 false (.t 1)) 40 true), (iG 42 (.load false 1 (.t 41)) 40 true), (iG 43 (.bin .eql .other (.t 42) (.c (.int .u16 0))) 40 true), (iO 44 (.pick (.t 40) (.t 43) (.c (.bool false)))), (iM 8 44)])
 (.reg [(iM 45 7), (iF 46 2 1), (iL 47 46), (iO 48 (.bslice 1 (.int .u16) [(.int .u16 0)] [(0, 1, (.t 47))] 1)), (iO 49 (.call 111 [(.t 45), (.t 48)])), (iM 7 49)]))
 (.seq (.seq (.reg [(iO 51 (.bin .eql .other (.t 26) (.c (.int .u8 3)))), (iM 50 51)])
 (.cond (.t 50) .skip
 (.reg [(iO 52 (.bin .eql .other (.t 26) (.c (.int .u8 4)))), (iM 50 52)])))
 (.cond (.t 50) (.seq (.reg [(iM 53 4), (iO 54 (.call 112 [(.t 53), (.c (.int .i64 1)), (.c (.int .i64 125))])), ⟨(some 55), .mov (.t 54), none, true⟩, (iG 56 (.mov (.t 5)) 55 true), (iG 57 (.bin .eql .other (.t 56) (.c (.int .i64 0))) 55 true), (iO 58 (.pick (.t 55) (.t 57) (.c (.bool false)))), ⟨(some 59), .mov (.t 58), none, true⟩, (iG 60 (.mov (.t 6)) 59 true), (iG 61 (.bin .eql .other (.t 60) (.c (.int .i64 0))) 59 true), (iO 62 (.pick (.t 59) (.t 61) (.c (.bool false)))), ⟨(some 63), .mov (.t 62), none, true⟩, (iG 64 (.fld 3 1 false (.t 1)) 63 true), (iG 65 (.load false 1 (.t 64)) 63 true), (iG 66 (.bin .eql .other (.t 65) (.c (.int .u16 0))) 63 true), (iO 67 (.pick (.t 63) (.t 66) (.c (.bool false)))), (iM 8 67)])
 (.reg [(iM 68 7), (iF 69 2 1), (iL 70 69), (iO 71 (.bslice 1 (.int .u16) [(.int .u16 0)] [(0, 1, (.t 70))] 1)), (iO 72 (.call 111 [(.t 68), (.t 71)])), (iM 7 72)]))
 (.seq (.reg [(iO 74 (.bin .eql .other (.t 26) (.c (.int .u8 5)))), (iM 73 74)])
 (.cond (.t 73) (.seq (.reg [(iM 75 4), (iO 76 (.bin .eql .other (.t 75) (.c (.int .i64 0)))), ⟨(some 77), .mov (.t 76), none, true⟩, (iG 78 (.mov (.t 5)) 77 true), (iG 79 (.bin .eql .other (.t 78) (.c (.int .i64 1))) 77 true), (iO 80 (.pick (.t 77) (.t 79) (.c (.bool false)))), ⟨(some 81), .mov (.t 80), none, true⟩, (iG 82 (.mov (.t 6)) 81 true), (iG 83 (.bin .eql .other (.t 82) (.c (.int .i64 0))) 81 true), (iO 84 (.pick (.t 81) (.t 83) (.c (.bool false)))), ⟨(some 85), .mov (.t 84), none, true⟩, (iG 86 (.fld 3 1 false (.t 1)) 85 true), (iG 87 (.load false 1 (.t 86)) 85 true), (iG 88 (.bin .eql .other (.t 87) (.c (.int .u16 0))) 85 true), (iO 89 (.pick (.t 85) (.t 88) (.c (.bool false)))), (iM 8 89)])
 (.seq (.reg [(iM 90 8)])
 (.cond (.t 90) (.reg [(iM 91 7), (iF 92 4 1), (iL 93 92), (iO 94 (.idx 1 none false (.t 93) (.c (.int .i64 0)))), (iL 95 94), (iO 96 (.call 113 [(.t 95)])), (iO 97 (.bslice 1 (.int .u16) [(.int .u16 0)] [(0, 1, (.t 96))] 1)), (iO 98 (.call 111 [(.t 91), (.t 97)])), (iM 7 98)])
 .skip)))
 (.seq (.reg [(iO 100 (.bin .eql .other (.t 26) (.c (.int .u8 6)))), (iM 99 100)])
 (.cond (.t 99) (.seq (.reg [(iM 101 4), (iO 102 (.bin .eql .other (.t 101) (.c (.int .i64 0)))), ⟨(some 103), .mov (.t 102), none, true⟩, (iG 104 (.mov (.t 5)) 103 true), (iG 105 (.bin .eql .other (.t 104) (.c (.int .i64 0))) 103 true), (iO 106 (.pick (.t 103) (.t 105) (.c (.bool false)))), ⟨(some 107), .mov (.t 106), none, true⟩, (iG 108 (.mov (.t 6)) 107 true), (iG 109 (.bin .eql .other (.t 108) (.c (.int .i64 1))) 107 true), (iO 110 (.pick (.t 107) (.t 109) (.c (.bool false)))), ⟨(some 111), .mov (.t 110), none, true⟩, (iG 112 (.fld 3 1 false (.t 1)) 111 true), (iG 113 (.load false 1 (.t 112)) 111 true), (iG 114 (.bin .eql .other (.t 113) (.c (.int .u16 0))) 111 true), (iO 115 (.pick (.t 111) (.t 114) (.c (.bool false)))), (iM 8 115)])
 (.reg [(iM 116 7), (iF 117 5 1), (iL 118 117), (iO 119 (.call 111 [(.t 116), (.t 118)])), (iM 7 119)]))
 (.seq (.reg [(iO 121 (.bin .eql .other (.t 26) (.c (.int .u8 15)))), (iM 120 121)])
 (.cond (.t 120) (.seq (.reg [(iM 122 4), (iO 123 (.bin .eql .other (.t 122) (.c (.int .i64 0)))), ⟨(some 124), .mov (.t 123), none, true⟩, (iG 125 (.mov (.t 5)) 124 true), (iG 126 (.call 112 [(.t 125), (.c (.int .i64 1)), (.c (.int .i64 1968))]) 124 true), (iO 127 (.pick (.t 124) (.t 126) (.c (.bool false)))), ⟨(some 128), .mov (.t 127), none, true⟩, (iG 129 (.mov (.t 6)) 128 true), (iG 130 (.bin .eql .other (.t 129) (.c (.int .i64 0))) 128 true), (iO 131 (.pick (.t 128) (.t 130) (.c (.bool false)))), ⟨(some 132), .mov (.t 131), none, true⟩, (iG 133 (.fld 3 1 false (.t 1)) 132 true), (iG 134 (.load false 1 (.t 133)) 132 true), (iG 135 (.bin .eql .other (.t 134) (.c (.int .u16 0))) 132 true), (iO 136 (.pick (.t 132) (.t 135) (.c (.bool false)))), (iM 8 136)])
 (.draw [(zS 0 (iM 137 7)), (zS 1 (iM 138 5)), (zS 2 (iO 139 (.conv (.int .u16) (.t 138)))), (zS 3 (iO 140 (.bslice 1 (.int .u16) [(.int .u16 0)] [(0, 1, (.t 139))] 1))), (zS 5 (iM 142 5)), (zS 6 (iO 143 (.bin .add .other (.t 142) (.c (.int .i64 7))))), (zS 7 (iO 144 (.bin .quo .other (.t 143) (.c (.int .i64 8))))), (zS 8 (iO 145 (.conv (.int .u8) (.t 144)))), (zS 9 (iO 146 (.bslice 1 (.int .u8) [(.int .u8 0)] [(0, 1, (.t 145))] 1))), (zS 11 (iF 148 4 1)), (zS 12 (iL 149 148)), ⟨4, (iO 141 (.call 111 [(.t 137), (.t 140)])), true, [3], [(.t 148)]⟩, ⟨10, (iO 147 (.app 1 1 (.t 141) (.t 146))), true, [3, 9], [(.t 148)]⟩, ⟨13, (iO 150 (.call 62 [(.t 149)])), true, [3, 9], []⟩, ⟨14, (iO 151 (.app 1 1 (.t 147) (.t 150))), true, [3, 9], []⟩, (zS 15 (iM 7 151))]))
 (.seq (.reg [(iO 153 (.bin .eql .other (.t 26) (.c (.int .u8 16)))), (iM 152 153)])
 (.cond (.t 152) (.seq (.reg [(iM 154 4), (iO 155 (.bin .eql .other (.t 154) (.c (.int .i64 0)))), ⟨(some 156), .mov (.t 155), none, true⟩, (iG 157 (.mov (.t 5)) 156 true), (iG 158 (.bin .eql .other (.t 157) (.c (.int .i64 0))) 156 true), (iO 159 (.pick (.t 156) (.t 158) (.c (.bool false)))), ⟨(some 160), .mov (.t 159), none, true⟩, (iG 161 (.mov (.t 6)) 160 true), (iG 162 (.call 112 [(.t 161), (.c (.int .i64 1)), (.c (.int .i64 123))]) 160 true), (iO 163 (.pick (.t 160) (.t 162) (.c (.bool false)))), ⟨(some 164), .mov (.t 163), none, true⟩, (iG 165 (.fld 3 1 false (.t 1)) 164 true), (iG 166 (.load false 1 (.t 165)) 164 true), (iG 167 (.bin .eql .other (.t 166) (.c (.int .u16 0))) 164 true), (iO 168 (.pick (.t 164) (.t 167) (.c (.bool false)))), (iM 8 168)])
 (.draw [(zS 0 (iM 169 7)), (zS 1 (iM 170 6)), (zS 2 (iO 171 (.conv (.int .u16) (.t 170)))), (zS 3 (iO 172 (.bslice 1 (.int .u16) [(.int .u16 0)] [(0, 1, (.t 171))] 1))), (zS 5 (iM 174 6)), (zS 6 (iO 175 (.bin .mul .other (.c (.int .i64 2)) (.t 174)))), (zS 7 (iO 176 (.conv (.int .u8) (.t 175)))), (zS 8 (iO 177 (.bslice 1 (.int .u8) [(.int .u8 0)] [(0, 1, (.t 176))] 1))), (zS 10 (iF 179 5 1)), (zS 11 (iL 180 179)), ⟨4, (iO 173 (.call 111 [(.t 169), (.t 172)])), true, [3], [(.t 179)]⟩, ⟨9, (iO 178 (.app 1 1 (.t 173) (.t 177))), true, [3, 8], [(.t 179)]⟩, ⟨12, (iO 181 (.call 111 [(.t 178), (.t 180)])), true, [3, 8], []⟩, (zS 13 (iM 7 181))]))
 (.seq (.reg [(iO 183 (.bin .eql .other (.t 26) (.c (.int .u8 22)))), (iM 182 183)])
 (.cond (.t 182) (.seq (.reg [(iM 184 4), (iO 185 (.bin .eql .other (.t 184) (.c (.int .i64 0)))), ⟨(some 186), .mov (.t 185), none, true⟩, (iG 187 (.mov (.t 5)) 186 true), (iG 188 (.bin .eql .other (.t 187) (.c (.int .i64 0))) 186 true), (iO 189 (.pick (.t 186) (.t 188) (.c (.bool false)))), ⟨(some 190), .mov (.t 189), none, true⟩, (iG 191 (.mov (.t 6)) 190 true), (iG 192 (.bin .eql .other (.t 191) (.c (.int .i64 2))) 190 true), (iO 193 (.pick (.t 190) (.t 192) (.c (.bool false)))), ⟨(some 194), .mov (.t 193), none, true⟩, (iG 195 (.fld 3 1 false (.t 1)) 194 true), (iG 196 (.load false 1 (.t 195)) 194 true), (iG 197 (.bin .eql .other (.t 196) (.c (.int .u16 0))) 194 true), (iO 198 (.pick (.t 194) (.t 197) (.c (.bool false)))), (iM 8 198)])
 (.reg [(iM 199 7), (iF 200 5 1), (iL 201 200), (iO 202 (.call 111 [(.t 199), (.t 201)])), (iM 7 202)]))
 (.seq (.reg [(iO 204 (.bin .eql .other (.t 26) (.c (.int .u8 23)))), (iM 203 204)])
 (.cond (.t 203) (.seq (.reg [(iM 205 4), (iO 206 (.call 112 [(.t 205), (.c (.int .i64 1)), (.c (.int .i64 125))])), ⟨(some 207), .mov (.t 206), none, true⟩, (iG 208 (.mov (.t 5)) 207 true), (iG 209 (.bin .eql .other (.t 208) (.c (.int .i64 0))) 207 true), (iO 210 (.pick (.t 207) (.t 209) (.c (.bool false)))), ⟨(some 211), .mov (.t 210), none, true⟩, (iG 212 (.mov (.t 6)) 211 true), (iG 213 (.call 112 [(.t 212), (.c (.int .i64 1)), (.c (.int .i64 121))]) 211 true), (iO 214 (.pick (.t 211) (.t 213) (.c (.bool false)))), (iM 8 214)])
 (.draw [(zS 0 (iM 215 7)), (zS 1 (iF 216 2 1)), (zS 2 (iL 217 216)), (zS 3 (iF 218 3 1)), (zS 4 (iL 219 218)), (zS 5 (iM 220 6)), (zS 6 (iO 221 (.conv (.int .u16) (.t 220)))), (zS 7 (iO 222 (.bslice 1 (.int .u16) [(.int .u16 0), (.int .u16 0), (.int .u16 0)] [(0, 1, (.t 217)), (1, 1, (.t 219)), (2, 1, (.t 221))] 3))), (zS 9 (iM 224 6)), (zS 10 (iO 225 (.bin .mul .other (.c (.int .i64 2)) (.t 224)))), (zS 11 (iO 226 (.conv (.int .u8) (.t 225)))), (zS 12 (iO 227 (.bslice 1 (.int .u8) [(.int .u8 0)] [(0, 1, (.t 226))] 1))), (zS 14 (iF 229 5 1)), (zS 15 (iL 230 229)), ⟨8, (iO 223 (.call 111 [(.t 215), (.t 222)])), true, [7], [(.t 229)]⟩, ⟨13, (iO 228 (.app 1 1 (.t 223) (.t 227))), true, [7, 12], [(.t 229)]⟩, ⟨16, (iO 231 (.call 111 [(.t 228), (.t 230)])), true, [7, 12], []⟩, (zS 17 (iM 7 231))]))
 .skip))))))))))))))))))
 (.seq (.seq (.reg [(iM 232 8), (iO 233 (.un .not (.t 232)))])
 (.cond (.t 233) (.seq (.reg [(iO 2 (.mov (.c .nils))), (iO 3 (.mov (.c (.int .i64 30))))])
 .ret)
 .skip))
 (.seq (.reg [(iM 234 7), (iM 2 234), (iO 3 (.mov (.c (.int .i64 0))))])
 .ret)))))))
def r49 : List ARes := [.t 2, .t 3]
theorem c49 : compF Try.prog Try.f49 = some (a49, r49) := by kernel_rfl
theorem b49 : hasBody Try.prog 49 = true := by kernel_rfl
theorem g49 : Try.prog.funcs[49]? = some Try.f49 := by kernel_rfl
theorem rtwo_call {h h2 len n : Nat} {l m : List Int} {s : St} {K : AV → St → Prop} (hg2 : s.get h2 = some (.rowI .u16 m)) (hg : s.get h = some (.rowI .u8 l)) (hne : Nat.beq h h2 = false) (hn : n = m.length) (hl : len = l.length) (hb : l.length ≤ 30000) (hm : m.length ≤ 30000)
    (k : openS s fun n t => K (.sl 1 n 0 (l ++ twos m).length) ⟨n + 1, (n, some (.rowI .u8 (l ++ twos m))) :: (h, none) :: (h2, none) :: t⟩) : Tr Try.prog 111 [.sl 1 h 0 len, .sl 1 h2 0 n] s K :=
  rowCall2 (rtwo_tr l m hb hm) hg2 hg hne hn hl k
theorem rtwo_call1 {h len : Nat} {l m : List Int} {s : St} {K : AV → St → Prop} (hg : s.get h = some (.rowI .u8 l)) (hl : len = l.length) (hb : l.length ≤ 30000) (hm : m.length ≤ 30000)
    (k : openS s fun n t => K (.sl 1 n 0 (l ++ twos m).length) ⟨n + 1, (n, some (.rowI .u8 (l ++ twos m))) :: (h, none) :: t⟩) : Tr Try.prog 111 [.sl 1 h 0 len, .roI .u16 m] s K :=
  rowCall (rtwo_tr l m hb hm) rfl hg hl k
theorem rpack_ev (l : List Bool) (hl : l.length ≤ 100000) : Ev Try.prog 62 [.roB l] (.roI .u8 (packN l l.length)) := Ev.row rfl (by rw [packN_length]; exact rpack_tr l hl)
def encOk (f n a2 : Int) (b : List Bool) (r : List Int) : Bool :=
  if f == 1 then withinB n 2000 && (b.length : Int) == 0 && (r.length : Int) == 0 && a2 == 0
  else if f == 2 then withinB n 2000 && (b.length : Int) == 0 && (r.length : Int) == 0 && a2 == 0
  else if f == 3 then withinB n 125 && (b.length : Int) == 0 && (r.length : Int) == 0 && a2 == 0
  else if f == 4 then withinB n 125 && (b.length : Int) == 0 && (r.length : Int) == 0 && a2 == 0
  else if f == 5 then n == 0 && (b.length : Int) == 1 && (r.length : Int) == 0 && a2 == 0
  else if f == 6 then n == 0 && (b.length : Int) == 0 && (r.length : Int) == 1 && a2 == 0
  else if f == 15 then n == 0 && withinB b.length 1968 && (r.length : Int) == 0 && a2 == 0
  else if f == 16 then n == 0 && (b.length : Int) == 0 && withinB r.length 123 && a2 == 0
  else if f == 22 then n == 0 && (b.length : Int) == 0 && (r.length : Int) == 2 && a2 == 0
  else if f == 23 then withinB n 125 && (b.length : Int) == 0 && withinB r.length 121
  else false
def encR (f a n a2 : Int) (b : List Bool) (r : List Int) : List Int := if encOk f n a2 b r then (reqS f a n a2 b r).row else []
def encE (f n a2 : Int) (b : List Bool) (r : List Int) : Int := if encOk f n a2 b r then 0 else 30
theorem within3_1 (n m : Int) : within3 n 1 m = withinB n m := rfl
theorem enc_own (f a n a2 : Int) (b : List Bool) (r : List Int) : ((reqS f a n a2 b r).ok && (f == f && a == a && n == (reqS f a n a2 b r).n && a2 == (reqS f a n a2 b r).a2 && b == (reqS f a n a2 b r).b && r == (reqS f a n a2 b r).r)) = encOk f n a2 b r := by
  by_cases h1 : f = 1
  · subst h1; rw [Bool.eq_iff_iff]; simp [reqS, encOk, withinB, ← List.length_eq_zero_iff] <;> omega
  by_cases h2 : f = 2
  · subst h2; rw [Bool.eq_iff_iff]; simp [reqS, encOk, withinB, ← List.length_eq_zero_iff] <;> omega
  by_cases h3 : f = 3
  · subst h3; rw [Bool.eq_iff_iff]; simp [reqS, encOk, withinB, ← List.length_eq_zero_iff] <;> omega
  by_cases h4 : f = 4
  · subst h4; rw [Bool.eq_iff_iff]; simp [reqS, encOk, withinB, ← List.length_eq_zero_iff] <;> omega
  by_cases h5 : f = 5
  · subst h5; rw [Bool.eq_iff_iff]; simp [reqS, encOk, withinB, ← List.length_eq_zero_iff] <;> omega
  by_cases h6 : f = 6
  · subst h6; rw [Bool.eq_iff_iff]; simp [reqS, encOk, withinB, ← List.length_eq_zero_iff] <;> omega
  by_cases h22 : f = 22
  · subst h22; rw [Bool.eq_iff_iff]; simp [reqS, encOk, withinB, ← List.length_eq_zero_iff] <;> omega
  by_cases h15 : f = 15
  · subst h15; rw [Bool.eq_iff_iff]; simp [reqS, encOk, withinB, ← List.length_eq_zero_iff] <;> omega
  by_cases h16 : f = 16
  · subst h16; rw [Bool.eq_iff_iff]; simp [reqS, encOk, withinB, ← List.length_eq_zero_iff] <;> omega
  by_cases h23 : f = 23
  · subst h23; rw [Bool.eq_iff_iff]; simp [reqS, encOk, withinB, ← List.length_eq_zero_iff] <;> omega
  simp [reqS, encOk, *]
theorem same_ev (f a n a2 f' a' n' a2' : Int) (b b' : List Bool) (r r' : List Int) (hb : b.length ≤ 100000) (hr : r.length ≤ 100000) :
    Ev Try.prog 110 [reqA f a n a2 (.roB b) (.roI .u16 r), reqA f' a' n' a2' (.roB b') (.roI .u16 r')] (.bool (f == f' && a == a' && n == n' && a2 == a2' && b == b' && r == r')) := ⟨rfl, same_tr f a n a2 f' a' n' a2' b b' r r' hb hr⟩
theorem RawK.err {row l : List Int} {e e' : Int} {h len : Nat} {s : St} (hg : s.get h = some (.rowI .u8 l)) (hl : len = l.length) (hr : l = row) (he : e = e') : RawK row [.int .i64 e'] (.tup [.sl 1 h 0 len, .int .i64 e]) s := by
  subst hr; subst he; subst hl
  unfold RawK
  exact ⟨_, Le.refl _, .inl ⟨h, rfl, hg⟩⟩
theorem RawK.err0 {row : List Int} {e e' : Int} {s : St} (hr : row = []) (he : e = e') : RawK row [.int .i64 e'] (.tup [.nils, .int .i64 e]) s := by
  subst hr; subst he
  unfold RawK
  exact ⟨_, Le.refl _, .inr ⟨rfl, rfl⟩⟩
theorem Request_raw (f a n a2 : Int) (b : List Bool) (r : List Int) (hn0 : 0 ≤ n) (hn1 : n < 65536) (hb : b.length ≤ 2500) (hr : r.length ≤ 500) :
    Tr Try.prog 48 [reqA f a n a2 (.roB b) (.roI .u16 r)] ⟨0, []⟩ (RawK (encR f a n a2 b r) [.int .i64 (encE f n a2 b r)]) := by
  have h1 := request_tr f a n a2 b r hn0 hn1 hb hr
  have h2 := enc_own f a n a2 b r
  unfold encR encE
  generalize encOk f n a2 b r = o at *
  generalize reqS f a n a2 b r = q at *
  refine trF g48 b48 c48 ?_
  conv => whnf
  refine Ret1.call h1 rfl rfl ?_
  conv => whnf
  refine condS (fun h => ?_) (fun h => ?_)
  · conv => whnf
    have : o = false := by rw [← h2, show q.ok = false by simpa using h]; rfl
    subst this
    exact RawK.err0 rfl rfl
  · conv => whnf
    refine Ev.call (same_ev _ _ _ _ _ _ _ _ _ _ _ _ (by omega) (by omega)) ?_
    conv => whnf
    rw [show q.ok = true by simpa using h, Bool.true_and] at h2
    rw [h2]
    cases o
    · conv => whnf
      exact RawK.err0 rfl rfl
    · conv => whnf
      exact RawK.err rfl rfl rfl rfl
theorem Request_tr (f a n a2 : Int) (b : List Bool) (r : List Int) (hn0 : 0 ≤ n) (hn1 : n < 65536) (hb : b.length ≤ 2500) (hr : r.length ≤ 500) :
    Tr Try.prog 48 [reqA f a n a2 (.roB b) (.roI .u16 r)] ⟨0, []⟩ (Ret1 (encR f a n a2 b r) [.int .i64 (encE f n a2 b r)]) :=
  Ret1.of rfl ((Request_raw f a n a2 b r hn0 hn1 hb hr).mono fun v s h => by unfold RawK at h; exact h)
theorem Request_ev (f a n a2 : Int) (b : List Bool) (r : List Int) (hn0 : 0 ≤ n) (hn1 : n < 65536) (hb : b.length ≤ 2500) (hr : r.length ≤ 500) :
    Ev Try.prog 48 [reqA f a n a2 (.roB b) (.roI .u16 r)] (.tup [.roI .u8 (encR f a n a2 b r), .int .i64 (encE f n a2 b r)]) := Ret1.ev rfl (Request_tr f a n a2 b r hn0 hn1 hb hr)
theorem row_take (X : List Int) (c : Int) : List.take (X.length + 1) (List.drop 0 (List.take X.length (List.drop 0 X) ++ List.take 1 (List.drop 0 [c]))) = X ++ [c] := by
  rw [List.drop_zero, List.drop_zero, List.drop_zero, List.take_length]
  exact List.take_of_length_le (by simp)
set_option maxRecDepth 20000 in
set_option maxHeartbeats 4000000 in
theorem rRequest_raw (f a n a2 : Int) (b : List Bool) (r : List Int) (hn0 : 0 ≤ n) (hn1 : n < 65536) (hb : b.length ≤ 2500) (hr : r.length ≤ 500) :
    Tr Try.prog 49 [reqA f a n a2 (.roB b) (.roI .u16 r)] ⟨0, []⟩ (RawK (encR f a n a2 b r) [.int .i64 (encE f n a2 b r)]) := by
  have hw : IntKind.i64.wrap n = n := IntWalk.i64_in _ (by omega)
  have h15 : IntKind.i64.wrap ((IntKind.i64.wrap ((b.length : Int) + 7)).tdiv 8) = (((b.length + 7) / 8 : Nat) : Int) := by
    rw [show IntKind.i64.wrap ((b.length : Int) + 7) = ((b.length + 7 : Nat) : Int) from w64 (i := b.length + 7) (by omega)]
    exact q64 (by omega)
  refine trF g49 b49 c49 ?_
  conv => whnf
  repeat' (first
    | (refine condY (by assumption) ?_; conv => whnf)
    | (refine condN (by assumption) ?_; conv => whnf)
    | (refine condT (by first | assumption | (simp [twos_length, packN_length, two8]; done) | (simp [twos_length, packN_length, two8]; omega) | (simp_all; done) | (simp_all; omega)) ?_; conv => whnf)
    | (refine condF (fun h => ?_) (fun h => ?_) <;> conv => whnf)
    | (refine ⟨rfl, ?_⟩; conv => whnf)
    | (refine rtwo_call rfl rfl rfl (by first | (simp [twos_length, packN_length, two8]; done) | (simp [twos_length, packN_length, two8]; omega) | omega) (by first | (simp [twos_length, packN_length, two8]; done) | (simp [twos_length, packN_length, two8]; omega) | omega) (by first | (simp [twos_length, packN_length, two8]; done) | (simp [twos_length, packN_length, two8]; omega) | omega) (by first | (simp [twos_length, packN_length, two8]; done) | (simp [twos_length, packN_length, two8]; omega) | omega) ?_; conv => whnf)
    | (refine rtwo_call1 rfl (by first | (simp [twos_length, packN_length, two8]; done) | (simp [twos_length, packN_length, two8]; omega) | omega) (by first | (simp [twos_length, packN_length, two8]; done) | (simp [twos_length, packN_length, two8]; omega) | omega) (by first | (simp [twos_length, packN_length, two8]; done) | (simp [twos_length, packN_length, two8]; omega) | omega) ?_; conv => whnf)
    | (refine Ev.call (within3_ev _ _ _) ?_; conv => whnf)
    | (refine Ev.call (one_ev _) ?_; conv => whnf)
    | (refine Ev.call (rpack_ev _ (by omega)) ?_; conv => whnf)
    )
  all_goals (simp only [within3_1, hw, h15] at *)
  all_goals first
    | (have hk : encOk f n a2 b r = false := by simp_all [encOk]
       exact RawK.err0 (by simp [encR, hk]) (by simp [encE, hk]))
    | (have hk : encOk f n a2 b r = true := by simp_all [encOk]
       refine RawK.err rfl (by first | rfl | (simp [packN_length]; done) | (simp [packN_length]; omega)) ?_ (by simp [encE, hk])
       simp only [encR, hk, if_true, reqS, *, Bool.false_eq_true, if_false]
       first | rfl | (simp [row15, rowR, pre3, packN_length, coilN, twos]; done) | (have h16 := eq_of_beq (show (f == 16) = true by assumption); subst h16; show _ = rowR (pre3 16 a) r; rfl) | (have h16 := eq_of_beq (show (f == 15) = true by assumption); subst h16; show _ = row15 15 a b; rw [row_take]; rfl) | (exfalso; simp_all; done))
theorem rRequest_ev (f a n a2 : Int) (b : List Bool) (r : List Int) (hn0 : 0 ≤ n) (hn1 : n < 65536) (hb : b.length ≤ 2500) (hr : r.length ≤ 500) :
    Ev Try.prog 49 [reqA f a n a2 (.roB b) (.roI .u16 r)] (.tup [.roI .u8 (encR f a n a2 b r), .int .i64 (encE f n a2 b r)]) :=
  Ret1.ev rfl (Ret1.of rfl ((rRequest_raw f a n a2 b r hn0 hn1 hb hr).mono fun v s h => by unfold RawK at h; exact h))
end Go.Proofs.Ytomodeliimnddaa
set_option linter.unusedVariables false
set_option linter.unusedSimpArgs false
namespace Go.Ab
end Go.Ab
namespace Go.Proofs.Ytomodeliimnddaa
open Go.Ab
structure Rq where
  f : Int
  a : Int
  n : Int
  a2 : Int
  b : List Bool
  r : List Int
def rqA (q : Rq) : AV := reqA q.f q.a q.n q.a2 (.roB q.b) (.roI .u16 q.r)
def Rq.zero : Rq := ⟨0, 0, 0, 0, [], []⟩
def cutF (l : List Int) (k : Nat) : List Int := (l.drop k).take (l.length - k)
theorem cutF_eq (l : List Int) (k : Nat) : cutF l k = l.drop k := List.take_of_length_le (by simp)
def numAt (l : List Int) (i : Nat) : Int := num16 (l.getD i 0) (l.getD (i + 1) 0)
theorem numbers_ev (l : List Int) (hl : l.length ≤ 100000) : Ev Try.prog 121 [.roI .u8 l] (.roI .u16 (numsN l (l.length / 2))) := Ev.row rfl (by rw [numsN_length]; exact numbers_tr l hl)
theorem bits_ev (l : List Int) (n : Int) (hl : l.length ≤ 100000) : Ev Try.prog 64 [.roI .u8 l, .int .i64 n] (.roB (bitsA l (bitsK n))) := by
  refine Ev.rowB rfl ?_
  rw [bitsA_length, ← bitsN_all]
  exact bits_tr l n hl
end Go.Proofs.Ytomodeliimnddaa
set_option linter.unusedVariables false
set_option linter.unusedSimpArgs false
namespace Go.Proofs.Ytomodeliimnddaa
open Go.Ab
theorem wrap16_range (n : Int) : 0 ≤ IntKind.u16.wrap n ∧ IntKind.u16.wrap n < 65536 := ⟨Int.emod_nonneg _ (by decide), Int.emod_lt_of_pos _ (by decide)⟩
theorem numAt_range (l : List Int) (i : Nat) : 0 ≤ numAt l i ∧ numAt l i < 65536 := wrap16_range _
theorem bitsK_le (n : Int) : bitsK n ≤ 2000 := by
  unfold bitsK
  split <;> omega
theorem numAt0 (l : List Int) (i : Nat) : 0 ≤ numAt l i := (numAt_range l i).1
theorem numAtL (l : List Int) (i : Nat) : numAt l i < 65536 := (numAt_range l i).2
def InR (q : Rq) : Prop := 0 ≤ q.n ∧ q.n < 65536 ∧ q.b.length ≤ 2500 ∧ q.r.length ≤ 500
theorem equal8_ev (l m : List Int) (hl : l.length ≤ 100000) : Ev Try.prog 115 [.roI .u8 l, .roI .u8 m] (.bool (l == m)) := ⟨rfl, equal8_tr l m hl⟩
theorem leReqE {f a n a2 : Int} {B R : AV} {e e' : Int} {q : Rq} (hf : f = q.f) (ha : a = q.a) (hn : n = q.n) (ha2 : a2 = q.a2) (hb : Le B (.roB q.b)) (hr : Le R (.roI .u16 q.r)) (he : e = e') :
    Le (.tup [reqA f a n a2 B R, .int .i64 e]) (.tup [rqA q, .int .i64 e']) := by
  subst hf; subst ha; subst hn; subst ha2; subst he
  exact Le.tup ⟨Le.agg ⟨Le.refl _, Le.refl _, Le.refl _, Le.refl _, hb, hr, trivial⟩, Le.refl _, trivial⟩
end Go.Proofs.Ytomodeliimnddaa
set_option linter.unusedVariables false
set_option linter.unusedSimpArgs false
namespace Go.Proofs.Ytomodeliimnddaa
open Go.Ab
def a118 : ACode := (.seq (.reg [(iO 1 (.box (.t 0))), (iO 2 (.mov (.c .nils))), (iO 3 (.alloc [(2, (.int .u8 0)), (2, (.int .u16 0)), (2, .nils)])), (iO 4 (.mov (.c (.bool false))))])
 (.seq (.reg [(iF 8 0 1), (iL 9 8), (iO 10 (.build [(.int .u8 0), (.int .u8 0), (.int .u16 0), (.int .u16 0), .nils, .nils] [(0, 1, (.t 9))])), (iO 5 (.alloc [(2, (.int .u8 0)), (2, (.int .u16 0)), (2, .nils)])), ⟨none, .store 6 (.t 5) (.t 10), none, false⟩])
 (.seq (.seq (.reg [(iF 11 1 1), (iL 12 11), (iO 13 (.bin .neq .other (.t 12) (.c (.int .u8 0))))])
 (.cond (.t 13) (.seq (.reg [(iF 14 1 1), (iL 15 14), (iF 16 1 5), ⟨none, .store 1 (.t 16) (.t 15), none, false⟩])
 (.seq (.draw [(zS 0 (iF 17 0 1)), (zS 1 (iL 18 17)), (zS 2 (iO 19 (.bin .or .other (.t 18) (.c (.int .u8 128))))), (zS 3 (iF 20 1 1)), (zS 4 (iL 21 20)), (zS 5 (iO 22 (.bslice 1 (.int .u8) [(.int .u8 0), (.int .u8 0)] [(0, 1, (.t 19)), (1, 1, (.t 21))] 2))), (zS 6 (iO 23 (.load true 6 (.t 5)))), (zS 7 (iF 24 0 1)), (zS 8 (iL 25 24)), (zS 9 (iO 26 (.bin .lss .other (.t 25) (.c (.int .u8 128))))), (zS 10 (iM 2 22)), ⟨11, ⟨none, .store 6 (.t 3) (.t 23), none, false⟩, true, [5], [(.t 24)]⟩, (zS 12 (iM 4 26))])
 .ret))
 .skip))
 (.seq (.reg [(iF 27 0 1), (iL 28 27), (iO 29 (.bslice 1 (.int .u8) [(.int .u8 0)] [(0, 1, (.t 28))] 1)), (iM 6 29)])
 (.seq (.seq (.reg [(iF 30 0 1), (iL 31 30)])
 (.block 0 (.seq (.seq (.reg [(iO 33 (.bin .eql .other (.t 31) (.c (.int .u8 1)))), (iM 32 33)])
 (.cond (.t 32) .skip
 (.reg [(iO 34 (.bin .eql .other (.t 31) (.c (.int .u8 2)))), (iM 32 34)])))
 (.cond (.t 32) (.seq (.reg [(iF 35 4 1), (iL 36 35), (iF 37 4 5), ⟨none, .store 1 (.t 37) (.t 36), none, false⟩])
 (.seq (.reg [(iF 38 4 1), (iL 39 38), (iO 40 (.call 61 [(.t 39)])), (iM 7 40)])
 (.seq (.draw [(zS 0 (iM 41 6)), (zS 1 (iM 42 7)), (zS 2 (iO 43 (.len false (.t 42)))), (zS 3 (iO 44 (.conv (.int .u8) (.t 43)))), (zS 4 (iO 45 (.bslice 1 (.int .u8) [(.int .u8 0)] [(0, 1, (.t 44))] 1))), (zS 6 (iM 47 7)), (zS 8 (iO 49 (.load true 6 (.t 5)))), (zS 9 (iF 50 4 1)), (zS 10 (iL 51 50)), (zS 11 (iO 52 (.len false (.t 51)))), ⟨5, (iO 46 (.app 1 1 (.t 41) (.t 45))), true, [4], [(.t 5), (.t 50)]⟩, ⟨7, (iO 48 (.app 1 1 (.t 46) (.t 47))), true, [4], [(.t 5), (.t 50)]⟩, ⟨12, (iO 53 (.call 150 [(.t 52), (.c (.int .i64 2000))])), true, [4], [(.t 5)]⟩, (zS 13 (iM 2 48)), ⟨14, ⟨none, .store 6 (.t 3) (.t 49), none, false⟩, true, [4], []⟩, (zS 15 (iM 4 53))])
 .ret)))
 (.seq (.seq (.reg [(iO 55 (.bin .eql .other (.t 31) (.c (.int .u8 3)))), (iM 54 55)])
 (.cond (.t 54) .skip
 (.seq (.reg [(iO 56 (.bin .eql .other (.t 31) (.c (.int .u8 4)))), (iM 54 56)])
 (.cond (.t 54) .skip
 (.reg [(iO 57 (.bin .eql .other (.t 31) (.c (.int .u8 23)))), (iM 54 57)])))))
 (.cond (.t 54) (.seq (.reg [(iF 58 5 1), (iL 59 58), (iF 60 5 5), ⟨none, .store 1 (.t 60) (.t 59), none, false⟩])
 (.seq (.draw [(zS 0 (iM 61 6)), (zS 1 (iF 62 5 1)), (zS 2 (iL 63 62)), (zS 3 (iO 64 (.len false (.t 63)))), (zS 4 (iO 65 (.bin .mul .other (.c (.int .i64 2)) (.t 64)))), (zS 5 (iO 66 (.conv (.int .u8) (.t 65)))), (zS 6 (iO 67 (.bslice 1 (.int .u8) [(.int .u8 0)] [(0, 1, (.t 66))] 1))), (zS 8 (iF 69 5 1)), (zS 9 (iL 70 69)), (zS 11 (iO 72 (.load true 6 (.t 5)))), (zS 12 (iF 73 5 1)), (zS 13 (iL 74 73)), (zS 14 (iO 75 (.len false (.t 74)))), ⟨7, (iO 68 (.app 1 1 (.t 61) (.t 67))), true, [6], [(.t 69), (.t 5), (.t 73)]⟩, ⟨10, (iO 71 (.call 149 [(.t 68), (.t 70)])), true, [6], [(.t 5), (.t 73)]⟩, ⟨15, (iO 76 (.call 150 [(.t 75), (.c (.int .i64 125))])), true, [6], [(.t 5)]⟩, (zS 16 (iM 2 71)), ⟨17, ⟨none, .store 6 (.t 3) (.t 72), none, false⟩, true, [6], []⟩, (zS 18 (iM 4 76))])
 .ret))
 .skip))))))
 (.seq (.reg [(iF 77 2 1), (iL 78 77), (iF 79 2 5), ⟨none, .store 1 (.t 79) (.t 78), none, false⟩])
 (.seq (.reg [(iM 80 6), (iF 81 2 1), (iL 82 81), (iO 83 (.call 146 [(.t 80), (.t 82)])), (iM 6 83)])
 (.seq (.seq (.reg [(iF 84 0 1), (iL 85 84)])
 (.block 1 (.seq (.reg [(iO 87 (.bin .eql .other (.t 85) (.c (.int .u8 5)))), (iM 86 87)])
 (.cond (.t 86) (.seq (.reg [(iF 88 4 1), (iL 89 88), (iF 90 4 5), ⟨none, .store 1 (.t 90) (.t 89), none, false⟩])
 (.seq (.draw [(zS 0 (iM 91 6)), (zS 1 (iF 92 4 1)), (zS 2 (iL 93 92)), (zS 3 (iO 94 (.len false (.t 93)))), (zS 4 (iO 95 (.bin .eql .other (.t 94) (.c (.int .i64 1))))), ⟨5, ⟨(some 96), .mov (.t 95), none, true⟩, false, [], []⟩, (zS 6 (iG 97 (.fld 4 1 false (.t 1)) 96 true)), (zS 7 (iG 98 (.load false 1 (.t 97)) 96 true)), (zS 8 (iG 99 (.idx 1 none false (.t 98) (.c (.int .i64 0))) 96 true)), (zS 9 (iG 100 (.load false 1 (.t 99)) 96 true)), (zS 10 (iO 101 (.pick (.t 96) (.t 100) (.c (.bool false))))), (zS 12 (iO 103 (.load true 6 (.t 5)))), (zS 13 (iF 104 4 1)), (zS 14 (iL 105 104)), (zS 15 (iO 106 (.len false (.t 105)))), (zS 16 (iO 107 (.bin .eql .other (.t 106) (.c (.int .i64 1))))), ⟨11, (iO 102 (.call 148 [(.t 91), (.t 101)])), true, [], [(.t 5), (.t 104)]⟩, (zS 17 (iM 2 102)), ⟨18, ⟨none, .store 6 (.t 3) (.t 103), none, false⟩, true, [], [(.t 104)]⟩, (zS 19 (iM 4 107))])
 .ret))
 (.seq (.reg [(iO 109 (.bin .eql .other (.t 85) (.c (.int .u8 6)))), (iM 108 109)])
 (.cond (.t 108) (.seq (.reg [(iF 110 5 1), (iL 111 110), (iF 112 5 5), ⟨none, .store 1 (.t 112) (.t 111), none, false⟩])
 (.seq (.draw [(zS 0 (iM 113 6)), (zS 1 (iF 114 5 1)), (zS 2 (iL 115 114)), (zS 4 (iO 117 (.load true 6 (.t 5)))), (zS 5 (iF 118 5 1)), (zS 6 (iL 119 118)), (zS 7 (iO 120 (.len false (.t 119)))), (zS 8 (iO 121 (.bin .eql .other (.t 120) (.c (.int .i64 1))))), ⟨3, (iO 116 (.call 149 [(.t 113), (.t 115)])), true, [], [(.t 5), (.t 118)]⟩, (zS 9 (iM 2 116)), ⟨10, ⟨none, .store 6 (.t 3) (.t 117), none, false⟩, true, [], [(.t 118)]⟩, (zS 11 (iM 4 121))])
 .ret))
 (.seq (.reg [(iO 123 (.bin .eql .other (.t 85) (.c (.int .u8 15)))), (iM 122 123)])
 (.cond (.t 122) (.seq (.reg [(iF 124 3 1), (iL 125 124), (iF 126 3 5), ⟨none, .store 1 (.t 126) (.t 125), none, false⟩])
 (.seq (.draw [(zS 0 (iM 127 6)), (zS 1 (iF 128 3 1)), (zS 2 (iL 129 128)), (zS 4 (iO 131 (.load true 6 (.t 5)))), (zS 5 (iF 132 3 1)), (zS 6 (iL 133 132)), (zS 7 (iO 134 (.conv (.int .i64) (.t 133)))), ⟨3, (iO 130 (.call 146 [(.t 127), (.t 129)])), true, [], [(.t 5), (.t 132)]⟩, ⟨8, (iO 135 (.call 150 [(.t 134), (.c (.int .i64 1968))])), true, [], [(.t 5)]⟩, (zS 9 (iM 2 130)), ⟨10, ⟨none, .store 6 (.t 3) (.t 131), none, false⟩, true, [], []⟩, (zS 11 (iM 4 135))])
 .ret))
 (.seq (.reg [(iO 137 (.bin .eql .other (.t 85) (.c (.int .u8 16)))), (iM 136 137)])
 (.cond (.t 136) (.seq (.reg [(iF 138 3 1), (iL 139 138), (iF 140 3 5), ⟨none, .store 1 (.t 140) (.t 139), none, false⟩])
 (.seq (.draw [(zS 0 (iM 141 6)), (zS 1 (iF 142 3 1)), (zS 2 (iL 143 142)), (zS 4 (iO 145 (.load true 6 (.t 5)))), (zS 5 (iF 146 3 1)), (zS 6 (iL 147 146)), (zS 7 (iO 148 (.conv (.int .i64) (.t 147)))), ⟨3, (iO 144 (.call 146 [(.t 141), (.t 143)])), true, [], [(.t 5), (.t 146)]⟩, ⟨8, (iO 149 (.call 150 [(.t 148), (.c (.int .i64 123))])), true, [], [(.t 5)]⟩, (zS 9 (iM 2 144)), ⟨10, ⟨none, .store 6 (.t 3) (.t 145), none, false⟩, true, [], []⟩, (zS 11 (iM 4 149))])
 .ret))
 (.seq (.reg [(iO 151 (.bin .eql .other (.t 85) (.c (.int .u8 22)))), (iM 150 151)])
 (.cond (.t 150) (.seq (.reg [(iF 152 5 1), (iL 153 152), (iF 154 5 5), ⟨none, .store 1 (.t 154) (.t 153), none, false⟩])
 (.seq (.draw [(zS 0 (iM 155 6)), (zS 1 (iF 156 5 1)), (zS 2 (iL 157 156)), (zS 4 (iO 159 (.load true 6 (.t 5)))), (zS 5 (iF 160 5 1)), (zS 6 (iL 161 160)), (zS 7 (iO 162 (.len false (.t 161)))), (zS 8 (iO 163 (.bin .eql .other (.t 162) (.c (.int .i64 2))))), ⟨3, (iO 158 (.call 149 [(.t 155), (.t 157)])), true, [], [(.t 5), (.t 160)]⟩, (zS 9 (iM 2 158)), ⟨10, ⟨none, .store 6 (.t 3) (.t 159), none, false⟩, true, [], [(.t 160)]⟩, (zS 11 (iM 4 163))])
 .ret))
 .skip))))))))))))
 (.seq (.draw [(zS 0 (iO 164 (.load true 6 (.t 5)))), (zS 1 (iO 2 (.mov (.c .nils)))), ⟨2, ⟨none, .store 6 (.t 3) (.t 164), none, false⟩, true, [], []⟩, (zS 3 (iO 4 (.mov (.c (.bool false)))))])
 .ret)))))))))
def r118 : List ARes := [.t 2, .cell 3 true 6, .t 4]
theorem c118 : compF Try.prog Try.f118 = some (a118, r118) := by kernel_rfl
theorem b118 : hasBody Try.prog 118 = true := by kernel_rfl
theorem g118 : Try.prog.funcs[118]? = some Try.f118 := by kernel_rfl
def or128 (f : Int) : Int := IntKind.u8.wrap (BitVec.ofInt 8 f ||| BitVec.ofInt 8 128).toNat
structure RepS where
  row : List Int
  x : Int
  a : Int
  n : Int
  b : List Bool
  r : List Int
  ok : Bool
def repS (f x a n : Int) (b : List Bool) (r : List Int) : RepS :=
  if x != 0 then ⟨[or128 f, x], x, 0, 0, [], [], decide (f < 128)⟩
  else if f == 1 then ⟨[f] ++ [IntKind.u8.wrap ((b.length + 7) / 8 : Nat)] ++ packN b b.length, 0, 0, 0, b, [], withinB b.length 2000⟩
  else if f == 2 then ⟨[f] ++ [IntKind.u8.wrap ((b.length + 7) / 8 : Nat)] ++ packN b b.length, 0, 0, 0, b, [], withinB b.length 2000⟩
  else if f == 3 then ⟨[f] ++ [IntKind.u8.wrap (IntKind.i64.wrap (2 * r.length))] ++ twos r, 0, 0, 0, [], r, withinB r.length 125⟩
  else if f == 4 then ⟨[f] ++ [IntKind.u8.wrap (IntKind.i64.wrap (2 * r.length))] ++ twos r, 0, 0, 0, [], r, withinB r.length 125⟩
  else if f == 23 then ⟨[f] ++ [IntKind.u8.wrap (IntKind.i64.wrap (2 * r.length))] ++ twos r, 0, 0, 0, [], r, withinB r.length 125⟩
  else if f == 5 then ⟨[f] ++ two8 a ++ two8 (coilN ((b.length : Int) == 1 && b.getD 0 false)), 0, a, 0, b, [], (b.length : Int) == 1⟩
  else if f == 6 then ⟨[f] ++ two8 a ++ twos r, 0, a, 0, [], r, (r.length : Int) == 1⟩
  else if f == 15 then ⟨[f] ++ two8 a ++ two8 n, 0, a, n, [], [], withinB n 1968⟩
  else if f == 16 then ⟨[f] ++ two8 a ++ two8 n, 0, a, n, [], [], withinB n 123⟩
  else if f == 22 then ⟨[f] ++ two8 a ++ twos r, 0, a, 0, [], r, (r.length : Int) == 2⟩
  else ⟨[], 0, a, 0, [], [], false⟩
def repR (f : Int) (q : RepS) : List AV := [repA f q.x q.a q.n (.roB q.b) (.roI .u16 q.r), .bool q.ok]
theorem RawK.rep {f x a n : Int} {q : RepS} {B R : AV} {s : St} {h len : Nat} {ok : Bool} {l : List Int} (hg : s.get h = some (.rowI .u8 l)) (he : l = q.row) (hl : len = l.length) (hx : x = q.x) (ha : a = q.a) (hn : n = q.n) (hb : Le B (.roB q.b)) (hr : Le R (.roI .u16 q.r)) (hok : ok = q.ok) :
    RawK q.row (repR f q) (.tup [.sl 1 h 0 len, repA f x a n B R, .bool ok]) s := by
  subst hl; subst he; subst hn; subst ha; subst hok; subst hx
  unfold RawK
  refine ⟨_, ?_, .inl ⟨h, rfl, hg⟩⟩
  exact Le.tup ⟨Le.refl _, Le.agg ⟨Le.refl _, Le.refl _, Le.refl _, Le.refl _, hb, hr, trivial⟩, Le.refl _, trivial⟩
theorem RawK.rep0 {f x a n : Int} {q : RepS} {B R : AV} {s : St} {ok : Bool} (hg : q.row = []) (hx : x = q.x) (ha : a = q.a) (hn : n = q.n) (hb : Le B (.roB q.b)) (hr : Le R (.roI .u16 q.r)) (hok : ok = q.ok) :
    RawK q.row (repR f q) (.tup [.nils, repA f x a n B R, .bool ok]) s := by
  subst hn; subst ha; subst hok; subst hx
  unfold RawK
  refine ⟨_, ?_, .inr ⟨hg, rfl⟩⟩
  exact Le.tup ⟨Le.refl _, Le.agg ⟨Le.refl _, Le.refl _, Le.refl _, Le.refl _, hb, hr, trivial⟩, Le.refl _, trivial⟩
set_option maxRecDepth 20000 in
set_option maxHeartbeats 4000000 in
theorem reply_raw (f x a n : Int) (b : List Bool) (r : List Int) (hn0 : 0 ≤ n) (hn1 : n < 65536) (hb : b.length ≤ 2500) (hr : r.length ≤ 16000) : Tr Try.prog 118 [repA f x a n (.roB b) (.roI .u16 r)] ⟨0, []⟩ (RawK (repS f x a n b r).row (repR f (repS f x a n b r))) := by
  have hw : IntKind.i64.wrap n = n := IntWalk.i64_in _ (by omega)
  refine trF g118 b118 c118 ?_
  conv => whnf
  repeat' (first
    | (refine condY (by assumption) ?_; conv => whnf)
    | (refine condN (by assumption) ?_; conv => whnf)
    | (refine condT (by first | assumption | (simp [twos_length, packN_length, two8]; done) | (simp [twos_length, packN_length, two8]; omega) | (simp_all; done) | (simp_all; omega)) ?_; conv => whnf)
    | (refine condF (fun h => ?_) (fun h => ?_) <;> conv => whnf)
    | (refine ⟨rfl, ?_⟩; conv => whnf)
    | (refine two_call rfl (by first | (simp [twos_length, packN_length, two8]; done) | (simp [twos_length, packN_length, two8]; omega) | omega) (by first | (simp [twos_length, packN_length, two8]; done) | (simp [twos_length, packN_length, two8]; omega) | omega) ?_; conv => whnf)
    | (refine coil_call rfl (by first | (simp [twos_length, packN_length, two8]; done) | (simp [twos_length, packN_length, two8]; omega) | omega) (by first | (simp [twos_length, packN_length, two8]; done) | (simp [twos_length, packN_length, two8]; omega) | omega) ?_; conv => whnf)
    | (refine regs_call rfl (by first | (simp [twos_length, packN_length, two8]; done) | (simp [twos_length, packN_length, two8]; omega) | omega) (by first | (simp [twos_length, packN_length, two8]; done) | (simp [twos_length, packN_length, two8]; omega) | omega) (by omega) ?_; conv => whnf)
    | (refine Ev.call (within16_ev _ _) ?_; conv => whnf)
    | (refine Ev.call (within_ev _ _) ?_; conv => whnf)
    | (refine Ev.call (pack_ev _ (by omega)) ?_; conv => whnf)
    )
  all_goals (generalize hq : repS f x a n b r = q; simp only [repS, *, if_true, if_false, Bool.false_eq_true, Bool.true_and, Bool.false_and] at hq; subst hq)
  all_goals try (rw [hw] at *)
  all_goals first
    | exact RawK.rep rfl (by first | rfl | (simp [packN_length, coilN, two8]; done)) (by first | rfl | (simp [twos_length, packN_length, two8]; done) | (simp [twos_length, packN_length, two8]; omega)) rfl rfl rfl (by first | exact Le.refl _ | exact Le.nilB) (by first | exact Le.refl _ | exact Le.nilI _) (by first | rfl | (simp [*]; done))
    | exact RawK.rep0 rfl rfl rfl rfl (by first | exact Le.refl _ | exact Le.nilB) (by first | exact Le.refl _ | exact Le.nilI _) rfl
theorem reply_tr (f x a n : Int) (b : List Bool) (r : List Int) (hn0 : 0 ≤ n) (hn1 : n < 65536) (hb : b.length ≤ 2500) (hr : r.length ≤ 16000) :
    Tr Try.prog 118 [repA f x a n (.roB b) (.roI .u16 r)] ⟨0, []⟩ (Ret1 (repS f x a n b r).row (repR f (repS f x a n b r))) :=
  Ret1.of rfl ((reply_raw f x a n b r hn0 hn1 hb hr).mono fun v s h => by unfold RawK at h; exact h)
end Go.Proofs.Ytomodeliimnddaa
set_option linter.unusedVariables false
set_option linter.unusedSimpArgs false
namespace Go.Proofs.Ytomodeliimnddaa
open Go.Ab
def a56 : ACode := (.seq (.reg [(iO 1 (.box (.t 0))), (iO 2 (.mov (.c .nils))), (iO 3 (.mov (.c (.int .i64 0))))])
 (.seq (.reg [(iO 8 (.load true 6 (.t 1))), (iO 9 (.call 118 [(.t 8)])), (iM 7 9), (iO 10 (.ext (.t 7) 0)), (iO 11 (.ext (.t 7) 1)), (iO 12 (.ext (.t 7) 2)), (iO 5 (.alloc [(2, (.int .u8 0)), (2, (.int .u16 0)), (2, .nils)])), (iM 4 10), ⟨none, .store 6 (.t 5) (.t 11), none, false⟩, (iM 6 12)])
 (.seq (.seq (.reg [(iM 13 6), (iO 14 (.un .not (.t 13))), ⟨(some 15), .mov (.t 14), none, true⟩, (iG 16 (.fld 2 1 false (.t 5)) 15 false), (iG 17 (.load false 1 (.t 16)) 15 false), (iG 18 (.fld 2 1 false (.t 1)) 15 false), (iG 19 (.load false 1 (.t 18)) 15 false), (iG 20 (.bin .neq .other (.t 17) (.t 19)) 15 false), (iO 21 (.pick (.t 15) (.c (.bool true)) (.t 20))), ⟨(some 22), .mov (.t 21), none, true⟩, (iG 23 (.fld 3 1 false (.t 5)) 22 false), (iG 24 (.load false 1 (.t 23)) 22 false), (iG 25 (.fld 3 1 false (.t 1)) 22 false), (iG 26 (.load false 1 (.t 25)) 22 false), (iG 27 (.bin .neq .other (.t 24) (.t 26)) 22 false), (iO 28 (.pick (.t 22) (.c (.bool true)) (.t 27))), ⟨(some 29), .mov (.t 28), none, true⟩, (iG 30 (.fld 4 1 false (.t 5)) 29 false), (iG 31 (.load false 1 (.t 30)) 29 false), (iG 32 (.fld 4 1 false (.t 1)) 29 false), (iG 33 (.load false 1 (.t 32)) 29 false), (iG 34 (.call 119 [(.t 31), (.t 33)]) 29 false), (iG 35 (.un .not (.t 34)) 29 false), (iO 36 (.pick (.t 29) (.c (.bool true)) (.t 35))), ⟨(some 37), .mov (.t 36), none, true⟩, (iG 38 (.fld 5 1 false (.t 5)) 37 false), (iG 39 (.load false 1 (.t 38)) 37 false), (iG 40 (.fld 5 1 false (.t 1)) 37 false), (iG 41 (.load false 1 (.t 40)) 37 false), (iG 42 (.call 120 [(.t 39), (.t 41)]) 37 false), (iG 43 (.un .not (.t 42)) 37 false), (iO 44 (.pick (.t 37) (.c (.bool true)) (.t 43)))])
 (.cond (.t 44) (.seq (.reg [(iO 2 (.mov (.c .nils))), (iO 3 (.mov (.c (.int .i64 30))))])
 .ret)
 .skip))
 (.seq (.reg [(iM 45 4), (iM 2 45), (iO 3 (.mov (.c (.int .i64 0))))])
 .ret))))
def r56 : List ARes := [.t 2, .t 3]
theorem c56 : compF Try.prog Try.f56 = some (a56, r56) := by kernel_rfl
theorem b56 : hasBody Try.prog 56 = true := by kernel_rfl
theorem g56 : Try.prog.funcs[56]? = some Try.f56 := by kernel_rfl
def a57 : ACode := (.seq (.reg [(iO 1 (.box (.t 0))), (iO 2 (.mov (.c .nils))), (iO 3 (.mov (.c (.int .i64 0))))])
 (.seq (.draw [(zS 0 (iF 9 3 1)), (zS 1 (iL 10 9)), (zS 2 (iO 11 (.conv (.int .i64) (.t 10)))), (zS 3 (iF 12 4 1)), (zS 4 (iL 13 12)), (zS 5 (iO 14 (.len false (.t 13)))), (zS 6 (iF 15 5 1)), (zS 7 (iL 16 15)), (zS 8 (iO 17 (.len false (.t 16)))), (zS 9 (iM 4 11)), (zS 10 (iM 5 14)), (zS 11 (iM 6 17))])
 (.seq (.seq (.reg [(iF 18 1 1), (iL 19 18), (iO 20 (.bin .neq .other (.t 19) (.c (.int .u8 0))))])
 (.cond (.t 20) (.seq (.seq (.reg [(iF 21 0 1), (iL 22 21), (iO 23 (.bin .geq .other (.t 22) (.c (.int .u8 128)))), ⟨(some 24), .mov (.t 23), none, true⟩, (iG 25 (.mov (.t 4)) 24 false), (iG 26 (.mov (.t 5)) 24 false), (iG 27 (.bin .add .other (.t 25) (.t 26)) 24 false), (iG 28 (.mov (.t 6)) 24 false), (iG 29 (.bin .add .other (.t 27) (.t 28)) 24 false), (iG 30 (.bin .neq .other (.t 29) (.c (.int .i64 0))) 24 false), (iO 31 (.pick (.t 24) (.c (.bool true)) (.t 30))), ⟨(some 32), .mov (.t 31), none, true⟩, (iG 33 (.fld 2 1 false (.t 1)) 32 false), (iG 34 (.load false 1 (.t 33)) 32 false), (iG 35 (.bin .neq .other (.t 34) (.c (.int .u16 0))) 32 false), (iO 36 (.pick (.t 32) (.c (.bool true)) (.t 35)))])
 (.cond (.t 36) (.seq (.reg [(iO 2 (.mov (.c .nils))), (iO 3 (.mov (.c (.int .i64 30))))])
 .ret)
 .skip))
 (.seq (.reg [(iF 37 0 1), (iL 38 37), (iO 39 (.bin .or .other (.t 38) (.c (.int .u8 128)))), (iF 40 1 1), (iL 41 40), (iO 42 (.bslice 1 (.int .u8) [(.int .u8 0), (.int .u8 0)] [(0, 1, (.t 39)), (1, 1, (.t 41))] 2)), (iM 2 42), (iO 3 (.mov (.c (.int .i64 0))))])
 .ret))
 .skip))
 (.seq (.reg [(iF 43 0 1), (iL 44 43), (iO 45 (.bslice 1 (.int .u8) [(.int .u8 0)] [(0, 1, (.t 44))] 1)), (iM 7 45)])
 (.seq (.reg [(iO 8 (.mov (.c (.bool false))))])
 (.seq (.seq (.reg [(iF 46 0 1), (iL 47 46)])
 (.block 0 (.seq (.seq (.reg [(iO 49 (.bin .eql .other (.t 47) (.c (.int .u8 1)))), (iM 48 49)])
 (.cond (.t 48) .skip
 (.reg [(iO 50 (.bin .eql .other (.t 47) (.c (.int .u8 2)))), (iM 48 50)])))
 (.cond (.t 48) (.seq (.reg [(iM 51 5), (iO 52 (.call 112 [(.t 51), (.c (.int .i64 1)), (.c (.int .i64 2000))])), ⟨(some 53), .mov (.t 52), none, true⟩, (iG 54 (.mov (.t 6)) 53 true), (iG 55 (.bin .eql .other (.t 54) (.c (.int .i64 0))) 53 true), (iO 56 (.pick (.t 53) (.t 55) (.c (.bool false)))), ⟨(some 57), .mov (.t 56), none, true⟩, (iG 58 (.mov (.t 4)) 57 true), (iG 59 (.bin .eql .other (.t 58) (.c (.int .i64 0))) 57 true), (iO 60 (.pick (.t 57) (.t 59) (.c (.bool false)))), ⟨(some 61), .mov (.t 60), none, true⟩, (iG 62 (.fld 2 1 false (.t 1)) 61 true), (iG 63 (.load false 1 (.t 62)) 61 true), (iG 64 (.bin .eql .other (.t 63) (.c (.int .u16 0))) 61 true), (iO 65 (.pick (.t 61) (.t 64) (.c (.bool false)))), (iM 8 65)])
 (.draw [(zS 0 (iM 66 7)), (zS 1 (iM 67 5)), (zS 2 (iO 68 (.bin .add .other (.t 67) (.c (.int .i64 7))))), (zS 3 (iO 69 (.bin .quo .other (.t 68) (.c (.int .i64 8))))), (zS 4 (iO 70 (.conv (.int .u8) (.t 69)))), (zS 5 (iO 71 (.bslice 1 (.int .u8) [(.int .u8 0)] [(0, 1, (.t 70))] 1))), (zS 7 (iF 73 4 1)), (zS 8 (iL 74 73)), ⟨6, (iO 72 (.app 1 1 (.t 66) (.t 71))), true, [5], [(.t 73)]⟩, ⟨9, (iO 75 (.call 62 [(.t 74)])), true, [5], []⟩, ⟨10, (iO 76 (.app 1 1 (.t 72) (.t 75))), true, [5], []⟩, (zS 11 (iM 7 76))]))
 (.seq (.seq (.reg [(iO 78 (.bin .eql .other (.t 47) (.c (.int .u8 3)))), (iM 77 78)])
 (.cond (.t 77) .skip
 (.seq (.reg [(iO 79 (.bin .eql .other (.t 47) (.c (.int .u8 4)))), (iM 77 79)])
 (.cond (.t 77) .skip
 (.reg [(iO 80 (.bin .eql .other (.t 47) (.c (.int .u8 23)))), (iM 77 80)])))))
 (.cond (.t 77) (.seq (.reg [(iM 81 6), (iO 82 (.call 112 [(.t 81), (.c (.int .i64 1)), (.c (.int .i64 125))])), ⟨(some 83), .mov (.t 82), none, true⟩, (iG 84 (.mov (.t 5)) 83 true), (iG 85 (.bin .eql .other (.t 84) (.c (.int .i64 0))) 83 true), (iO 86 (.pick (.t 83) (.t 85) (.c (.bool false)))), ⟨(some 87), .mov (.t 86), none, true⟩, (iG 88 (.mov (.t 4)) 87 true), (iG 89 (.bin .eql .other (.t 88) (.c (.int .i64 0))) 87 true), (iO 90 (.pick (.t 87) (.t 89) (.c (.bool false)))), ⟨(some 91), .mov (.t 90), none, true⟩, (iG 92 (.fld 2 1 false (.t 1)) 91 true), (iG 93 (.load false 1 (.t 92)) 91 true), (iG 94 (.bin .eql .other (.t 93) (.c (.int .u16 0))) 91 true), (iO 95 (.pick (.t 91) (.t 94) (.c (.bool false)))), (iM 8 95)])
 (.draw [(zS 0 (iM 96 7)), (zS 1 (iM 97 6)), (zS 2 (iO 98 (.bin .mul .other (.c (.int .i64 2)) (.t 97)))), (zS 3 (iO 99 (.conv (.int .u8) (.t 98)))), (zS 4 (iO 100 (.bslice 1 (.int .u8) [(.int .u8 0)] [(0, 1, (.t 99))] 1))), (zS 6 (iF 102 5 1)), (zS 7 (iL 103 102)), ⟨5, (iO 101 (.app 1 1 (.t 96) (.t 100))), true, [4], [(.t 102)]⟩, ⟨8, (iO 104 (.call 111 [(.t 101), (.t 103)])), true, [4], []⟩, (zS 9 (iM 7 104))]))
 (.seq (.reg [(iO 106 (.bin .eql .other (.t 47) (.c (.int .u8 5)))), (iM 105 106)])
 (.cond (.t 105) (.seq (.reg [(iM 107 5), (iO 108 (.bin .eql .other (.t 107) (.c (.int .i64 1)))), ⟨(some 109), .mov (.t 108), none, true⟩, (iG 110 (.mov (.t 6)) 109 true), (iG 111 (.bin .eql .other (.t 110) (.c (.int .i64 0))) 109 true), (iO 112 (.pick (.t 109) (.t 111) (.c (.bool false)))), ⟨(some 113), .mov (.t 112), none, true⟩, (iG 114 (.mov (.t 4)) 113 true), (iG 115 (.bin .eql .other (.t 114) (.c (.int .i64 0))) 113 true), (iO 116 (.pick (.t 113) (.t 115) (.c (.bool false)))), (iM 8 116)])
 (.seq (.reg [(iM 117 8)])
 (.cond (.t 117) (.draw [(zS 0 (iM 118 7)), (zS 1 (iF 119 2 1)), (zS 2 (iL 120 119)), (zS 3 (iF 121 4 1)), (zS 4 (iL 122 121)), (zS 5 (iO 123 (.idx 1 none false (.t 122) (.c (.int .i64 0))))), (zS 6 (iL 124 123)), ⟨7, (iO 125 (.call 113 [(.t 124)])), true, [], [(.t 119)]⟩, (zS 8 (iO 126 (.bslice 1 (.int .u16) [(.int .u16 0), (.int .u16 0)] [(0, 1, (.t 120)), (1, 1, (.t 125))] 2))), ⟨9, (iO 127 (.call 111 [(.t 118), (.t 126)])), true, [8], []⟩, (zS 10 (iM 7 127))])
 .skip)))
 (.seq (.reg [(iO 129 (.bin .eql .other (.t 47) (.c (.int .u8 6)))), (iM 128 129)])
 (.cond (.t 128) (.seq (.reg [(iM 130 6), (iO 131 (.bin .eql .other (.t 130) (.c (.int .i64 1)))), ⟨(some 132), .mov (.t 131), none, true⟩, (iG 133 (.mov (.t 5)) 132 true), (iG 134 (.bin .eql .other (.t 133) (.c (.int .i64 0))) 132 true), (iO 135 (.pick (.t 132) (.t 134) (.c (.bool false)))), ⟨(some 136), .mov (.t 135), none, true⟩, (iG 137 (.mov (.t 4)) 136 true), (iG 138 (.bin .eql .other (.t 137) (.c (.int .i64 0))) 136 true), (iO 139 (.pick (.t 136) (.t 138) (.c (.bool false)))), (iM 8 139)])
 (.draw [(zS 0 (iM 140 7)), (zS 1 (iF 141 2 1)), (zS 2 (iL 142 141)), (zS 3 (iO 143 (.bslice 1 (.int .u16) [(.int .u16 0)] [(0, 1, (.t 142))] 1))), (zS 5 (iF 145 5 1)), (zS 6 (iL 146 145)), ⟨4, (iO 144 (.call 111 [(.t 140), (.t 143)])), true, [3], [(.t 145)]⟩, ⟨7, (iO 147 (.call 111 [(.t 144), (.t 146)])), true, [3], []⟩, (zS 8 (iM 7 147))]))
 (.seq (.reg [(iO 149 (.bin .eql .other (.t 47) (.c (.int .u8 15)))), (iM 148 149)])
 (.cond (.t 148) (.seq (.reg [(iM 150 4), (iO 151 (.call 112 [(.t 150), (.c (.int .i64 1)), (.c (.int .i64 1968))])), ⟨(some 152), .mov (.t 151), none, true⟩, (iG 153 (.mov (.t 5)) 152 true), (iG 154 (.mov (.t 6)) 152 true), (iG 155 (.bin .add .other (.t 153) (.t 154)) 152 true), (iG 156 (.bin .eql .other (.t 155) (.c (.int .i64 0))) 152 true), (iO 157 (.pick (.t 152) (.t 156) (.c (.bool false)))), (iM 8 157)])
 (.reg [(iM 158 7), (iF 159 2 1), (iL 160 159), (iF 161 3 1), (iL 162 161), (iO 163 (.bslice 1 (.int .u16) [(.int .u16 0), (.int .u16 0)] [(0, 1, (.t 160)), (1, 1, (.t 162))] 2)), (iO 164 (.call 111 [(.t 158), (.t 163)])), (iM 7 164)]))
 (.seq (.reg [(iO 166 (.bin .eql .other (.t 47) (.c (.int .u8 16)))), (iM 165 166)])
 (.cond (.t 165) (.seq (.reg [(iM 167 4), (iO 168 (.call 112 [(.t 167), (.c (.int .i64 1)), (.c (.int .i64 123))])), ⟨(some 169), .mov (.t 168), none, true⟩, (iG 170 (.mov (.t 5)) 169 true), (iG 171 (.mov (.t 6)) 169 true), (iG 172 (.bin .add .other (.t 170) (.t 171)) 169 true), (iG 173 (.bin .eql .other (.t 172) (.c (.int .i64 0))) 169 true), (iO 174 (.pick (.t 169) (.t 173) (.c (.bool false)))), (iM 8 174)])
 (.reg [(iM 175 7), (iF 176 2 1), (iL 177 176), (iF 178 3 1), (iL 179 178), (iO 180 (.bslice 1 (.int .u16) [(.int .u16 0), (.int .u16 0)] [(0, 1, (.t 177)), (1, 1, (.t 179))] 2)), (iO 181 (.call 111 [(.t 175), (.t 180)])), (iM 7 181)]))
 (.seq (.reg [(iO 183 (.bin .eql .other (.t 47) (.c (.int .u8 22)))), (iM 182 183)])
 (.cond (.t 182) (.seq (.reg [(iM 184 6), (iO 185 (.bin .eql .other (.t 184) (.c (.int .i64 2)))), ⟨(some 186), .mov (.t 185), none, true⟩, (iG 187 (.mov (.t 5)) 186 true), (iG 188 (.bin .eql .other (.t 187) (.c (.int .i64 0))) 186 true), (iO 189 (.pick (.t 186) (.t 188) (.c (.bool false)))), ⟨(some 190), .mov (.t 189), none, true⟩, (iG 191 (.mov (.t 4)) 190 true), (iG 192 (.bin .eql .other (.t 191) (.c (.int .i64 0))) 190 true), (iO 193 (.pick (.t 190) (.t 192) (.c (.bool false)))), (iM 8 193)])
 (.draw [(zS 0 (iM 194 7)), (zS 1 (iF 195 2 1)), (zS 2 (iL 196 195)), (zS 3 (iO 197 (.bslice 1 (.int .u16) [(.int .u16 0)] [(0, 1, (.t 196))] 1))), (zS 5 (iF 199 5 1)), (zS 6 (iL 200 199)), ⟨4, (iO 198 (.call 111 [(.t 194), (.t 197)])), true, [3], [(.t 199)]⟩, ⟨7, (iO 201 (.call 111 [(.t 198), (.t 200)])), true, [3], []⟩, (zS 8 (iM 7 201))]))
 .skip))))))))))))))))
 (.seq (.seq (.reg [(iM 202 8), (iO 203 (.un .not (.t 202)))])
 (.cond (.t 203) (.seq (.reg [(iO 2 (.mov (.c .nils))), (iO 3 (.mov (.c (.int .i64 30))))])
 .ret)
 .skip))
 (.seq (.reg [(iM 204 7), (iM 2 204), (iO 3 (.mov (.c (.int .i64 0))))])
 .ret))))))))
def r57 : List ARes := [.t 2, .t 3]
theorem c57 : compF Try.prog Try.f57 = some (a57, r57) := by kernel_rfl
theorem b57 : hasBody Try.prog 57 = true := by kernel_rfl
theorem g57 : Try.prog.funcs[57]? = some Try.f57 := by kernel_rfl
def repOk (f x a n : Int) (b : List Bool) (r : List Int) : Bool :=
  if x != 0 then decide (f < 128) && (n == 0 && (b.length : Int) == 0 && (r.length : Int) == 0) && a == 0
  else if f == 1 then withinB b.length 2000 && (r.length : Int) == 0 && n == 0 && a == 0
  else if f == 2 then withinB b.length 2000 && (r.length : Int) == 0 && n == 0 && a == 0
  else if f == 3 then withinB r.length 125 && (b.length : Int) == 0 && n == 0 && a == 0
  else if f == 4 then withinB r.length 125 && (b.length : Int) == 0 && n == 0 && a == 0
  else if f == 23 then withinB r.length 125 && (b.length : Int) == 0 && n == 0 && a == 0
  else if f == 5 then (b.length : Int) == 1 && (r.length : Int) == 0 && n == 0
  else if f == 6 then (r.length : Int) == 1 && (b.length : Int) == 0 && n == 0
  else if f == 15 then withinB n 1968 && ((b.length : Int) == 0 && (r.length : Int) == 0)
  else if f == 16 then withinB n 123 && ((b.length : Int) == 0 && (r.length : Int) == 0)
  else if f == 22 then (r.length : Int) == 2 && (b.length : Int) == 0 && n == 0
  else false
def repB (f x a n : Int) (b : List Bool) (r : List Int) : List Int := if repOk f x a n b r then (repS f x a n b r).row else []
def repE (f x a n : Int) (b : List Bool) (r : List Int) : Int := if repOk f x a n b r then 0 else 30
theorem rep_own (f x a n : Int) (b : List Bool) (r : List Int) : ((repS f x a n b r).ok && ((repS f x a n b r).a == a) && ((repS f x a n b r).n == n) && ((repS f x a n b r).b == b) && ((repS f x a n b r).r == r)) = repOk f x a n b r := by
  have e1 : ([] = b) ↔ b.length = 0 := by rw [List.length_eq_zero_iff]; exact eq_comm
  have e2 : ([] = r) ↔ r.length = 0 := by rw [List.length_eq_zero_iff]; exact eq_comm
  by_cases hx : x = 0
  · subst hx
    by_cases h1 : f = 1
    · subst h1; rw [Bool.eq_iff_iff]; simp [repS, repOk, withinB, @eq_comm _ [] b, @eq_comm _ [] r, ← List.length_eq_zero_iff] <;> omega
    by_cases h2 : f = 2
    · subst h2; rw [Bool.eq_iff_iff]; simp [repS, repOk, withinB, @eq_comm _ [] b, @eq_comm _ [] r, ← List.length_eq_zero_iff] <;> omega
    by_cases h3 : f = 3
    · subst h3; rw [Bool.eq_iff_iff]; simp [repS, repOk, withinB, @eq_comm _ [] b, @eq_comm _ [] r, ← List.length_eq_zero_iff] <;> omega
    by_cases h4 : f = 4
    · subst h4; rw [Bool.eq_iff_iff]; simp [repS, repOk, withinB, @eq_comm _ [] b, @eq_comm _ [] r, ← List.length_eq_zero_iff] <;> omega
    by_cases h23 : f = 23
    · subst h23; rw [Bool.eq_iff_iff]; simp [repS, repOk, withinB, @eq_comm _ [] b, @eq_comm _ [] r, ← List.length_eq_zero_iff] <;> omega
    by_cases h5 : f = 5
    · subst h5; rw [Bool.eq_iff_iff]; simp [repS, repOk, withinB, @eq_comm _ [] b, @eq_comm _ [] r, ← List.length_eq_zero_iff] <;> omega
    by_cases h6 : f = 6
    · subst h6; rw [Bool.eq_iff_iff]; simp [repS, repOk, withinB, @eq_comm _ [] b, @eq_comm _ [] r, ← List.length_eq_zero_iff] <;> omega
    by_cases h15 : f = 15
    · subst h15; rw [Bool.eq_iff_iff]; simp [repS, repOk, withinB, @eq_comm _ [] b, @eq_comm _ [] r, ← List.length_eq_zero_iff] <;> omega
    by_cases h16 : f = 16
    · subst h16; rw [Bool.eq_iff_iff]; simp [repS, repOk, withinB, @eq_comm _ [] b, @eq_comm _ [] r, ← List.length_eq_zero_iff] <;> omega
    by_cases h22 : f = 22
    · subst h22; rw [Bool.eq_iff_iff]; simp [repS, repOk, withinB, @eq_comm _ [] b, @eq_comm _ [] r, ← List.length_eq_zero_iff] <;> omega
    simp [repS, repOk, *]
  · rw [Bool.eq_iff_iff]; simp [repS, repOk, hx, @eq_comm _ [] b, @eq_comm _ [] r, ← List.length_eq_zero_iff] <;> omega
theorem equalB_ev (l m : List Bool) (hl : l.length ≤ 100000) : Ev Try.prog 119 [.roB l, .roB m] (.bool (l == m)) := ⟨rfl, equalB_tr l m hl⟩
theorem equal16_ev (l m : List Int) (hl : l.length ≤ 100000) : Ev Try.prog 120 [.roI .u16 l, .roI .u16 m] (.bool (l == m)) := ⟨rfl, equal16_tr l m hl⟩
theorem repS_len (f x a n : Int) (b : List Bool) (r : List Int) (hb : b.length ≤ 2500) (hr : r.length ≤ 16000) : (repS f x a n b r).b.length ≤ 2500 ∧ (repS f x a n b r).r.length ≤ 16000 := by
  unfold repS
  by_cases h : (x != 0) = true
  · rw [if_pos h]; simp
  rw [if_neg h]
  by_cases h1 : (f == 1) = true
  · rw [if_pos h1]; simp [hb, hr]
  rw [if_neg h1]
  by_cases h2 : (f == 2) = true
  · rw [if_pos h2]; simp [hb, hr]
  rw [if_neg h2]
  by_cases h3 : (f == 3) = true
  · rw [if_pos h3]; simp [hb, hr]
  rw [if_neg h3]
  by_cases h4 : (f == 4) = true
  · rw [if_pos h4]; simp [hb, hr]
  rw [if_neg h4]
  by_cases h23 : (f == 23) = true
  · rw [if_pos h23]; simp [hb, hr]
  rw [if_neg h23]
  by_cases h5 : (f == 5) = true
  · rw [if_pos h5]; simp [hb, hr]
  rw [if_neg h5]
  by_cases h6 : (f == 6) = true
  · rw [if_pos h6]; simp [hb, hr]
  rw [if_neg h6]
  by_cases h15 : (f == 15) = true
  · rw [if_pos h15]; simp [hb, hr]
  rw [if_neg h15]
  by_cases h16 : (f == 16) = true
  · rw [if_pos h16]; simp [hb, hr]
  rw [if_neg h16]
  by_cases h22 : (f == 22) = true
  · rw [if_pos h22]; simp [hb, hr]
  rw [if_neg h22]
  simp
set_option maxRecDepth 20000 in
set_option maxHeartbeats 4000000 in
theorem Reply_raw (f x a n : Int) (b : List Bool) (r : List Int) (hn0 : 0 ≤ n) (hn1 : n < 65536) (hb : b.length ≤ 2500) (hr : r.length ≤ 16000) :
    Tr Try.prog 56 [repA f x a n (.roB b) (.roI .u16 r)] ⟨0, []⟩ (RawK (repB f x a n b r) [.int .i64 (repE f x a n b r)]) := by
  have h1 := reply_tr f x a n b r hn0 hn1 hb hr
  have h2 := rep_own f x a n b r
  obtain ⟨l1, l2⟩ := repS_len f x a n b r hb hr
  unfold repB repE
  generalize repOk f x a n b r = o at *
  generalize repS f x a n b r = q at *
  refine trF g56 b56 c56 ?_
  conv => whnf
  refine Ret1.call h1 rfl rfl ?_
  conv => whnf
  repeat' (first
    | (refine condY (by assumption) ?_; conv => whnf)
    | (refine condN (by assumption) ?_; conv => whnf)
    | (refine condF (fun h => ?_) (fun h => ?_) <;> conv => whnf)
    | (refine Ev.call (equalB_ev _ _ (by omega)) ?_; conv => whnf)
    | (refine Ev.call (equal16_ev _ _ (by omega)) ?_; conv => whnf)
    )
  all_goals first
    | (have ho : o = false := by rw [← h2]; simp_all
       subst ho
       exact RawK.err0 rfl rfl)
    | (have ho : o = true := by rw [← h2]; simp_all
       subst ho
       exact RawK.err rfl rfl rfl rfl)
theorem Reply_tr (f x a n : Int) (b : List Bool) (r : List Int) (hn0 : 0 ≤ n) (hn1 : n < 65536) (hb : b.length ≤ 2500) (hr : r.length ≤ 16000) :
    Tr Try.prog 56 [repA f x a n (.roB b) (.roI .u16 r)] ⟨0, []⟩ (Ret1 (repB f x a n b r) [.int .i64 (repE f x a n b r)]) :=
  Ret1.of rfl ((Reply_raw f x a n b r hn0 hn1 hb hr).mono fun v s h => by unfold RawK at h; exact h)
theorem Reply_ev (f x a n : Int) (b : List Bool) (r : List Int) (hn0 : 0 ≤ n) (hn1 : n < 65536) (hb : b.length ≤ 2500) (hr : r.length ≤ 16000) :
    Ev Try.prog 56 [repA f x a n (.roB b) (.roI .u16 r)] (.tup [.roI .u8 (repB f x a n b r), .int .i64 (repE f x a n b r)]) := Ret1.ev rfl (Reply_tr f x a n b r hn0 hn1 hb hr)
theorem not_t {c : Bool} (h : (!c) = true) : c = false := by cases c; rfl; cases h
theorem rrep_sums {n : Int} {b : List Bool} {r : List Int} (hn0 : 0 ≤ n) (hn1 : n < 65536) (hb : b.length ≤ 2500) (hr : r.length ≤ 16000) : (IntKind.i64.wrap (IntKind.i64.wrap (n + b.length) + r.length) != 0) = !(n == 0 && (b.length : Int) == 0 && (r.length : Int) == 0) := by
  rw [IntWalk.i64_in (n + b.length) (by omega), IntWalk.i64_in _ (by omega)]
  rw [Bool.eq_iff_iff]; simp [← List.length_eq_zero_iff] <;> omega
theorem rrep_sum2 {b : List Bool} {r : List Int} (hb : b.length ≤ 2500) (hr : r.length ≤ 16000) : (IntKind.i64.wrap ((b.length : Int) + r.length) == 0) = ((b.length : Int) == 0 && (r.length : Int) == 0) := by
  rw [IntWalk.i64_in _ (by omega)]
  rw [Bool.eq_iff_iff]; simp [← List.length_eq_zero_iff] <;> omega
set_option maxRecDepth 20000 in
set_option maxHeartbeats 4000000 in
theorem rReply_raw (f x a n : Int) (b : List Bool) (r : List Int) (hn0 : 0 ≤ n) (hn1 : n < 65536) (hb : b.length ≤ 2500) (hr : r.length ≤ 16000) :
    Tr Try.prog 57 [repA f x a n (.roB b) (.roI .u16 r)] ⟨0, []⟩ (RawK (repB f x a n b r) [.int .i64 (repE f x a n b r)]) := by
  have hw : IntKind.i64.wrap n = n := IntWalk.i64_in _ (by omega)
  have h15 : IntKind.i64.wrap ((IntKind.i64.wrap ((b.length : Int) + 7)).tdiv 8) = (((b.length + 7) / 8 : Nat) : Int) := by
    rw [show IntKind.i64.wrap ((b.length : Int) + 7) = ((b.length + 7 : Nat) : Int) from w64 (i := b.length + 7) (by omega)]
    exact q64 (by omega)
  refine trF g57 b57 c57 ?_
  conv => whnf
  repeat' (first
    | (refine condY (by assumption) ?_; conv => whnf)
    | (refine condN (by assumption) ?_; conv => whnf)
    | (refine condT (by first | assumption | (simp [twos_length, packN_length, two8]; done) | (simp [twos_length, packN_length, two8]; omega) | (simp_all; done) | (simp_all; omega)) ?_; conv => whnf)
    | (refine condF (fun h => ?_) (fun h => ?_) <;> conv => whnf)
    | (refine ⟨rfl, ?_⟩; conv => whnf)
    | (refine rtwo_call rfl rfl rfl (by first | (simp [twos_length, packN_length, two8]; done) | (simp [twos_length, packN_length, two8]; omega) | omega) (by first | (simp [twos_length, packN_length, two8]; done) | (simp [twos_length, packN_length, two8]; omega) | omega) (by first | (simp [twos_length, packN_length, two8]; done) | (simp [twos_length, packN_length, two8]; omega) | omega) (by first | (simp [twos_length, packN_length, two8]; done) | (simp [twos_length, packN_length, two8]; omega) | omega) ?_; conv => whnf)
    | (refine rtwo_call1 rfl (by first | (simp [twos_length, packN_length, two8]; done) | (simp [twos_length, packN_length, two8]; omega) | omega) (by first | (simp [twos_length, packN_length, two8]; done) | (simp [twos_length, packN_length, two8]; omega) | omega) (by first | (simp [twos_length, packN_length, two8]; done) | (simp [twos_length, packN_length, two8]; omega) | omega) ?_; conv => whnf)
    | (refine Ev.call (within3_ev _ _ _) ?_; conv => whnf)
    | (refine Ev.call (one_ev _) ?_; conv => whnf)
    | (refine Ev.call (rpack_ev _ (by omega)) ?_; conv => whnf)
    )
  all_goals (simp only [within3_1, hw, h15, rrep_sums hn0 hn1 hb hr, rrep_sum2 hb hr] at *)
  all_goals first
    | (exfalso; simp_all; done)
    | (have hk : repOk f x a n b r = false := by
         first
           | (simp_all [repOk]; done)
           | (have hc := not_t h
              have e1 : ∀ k, (f == k) = true → f = k := fun k hk => eq_of_beq hk
              simp only [repOk, hc, Bool.and_false, Bool.false_and, ite_self]
              simp only [*, if_true, if_false, Bool.false_eq_true]
              done)
           | (have hc := not_t h
              have hf := eq_of_beq (show (f == 16) = true by assumption)
              have h0 : (x != 0) = false := by assumption
              simp only [repOk, hc, h0, hf, Bool.and_false, Bool.false_and]; rfl)
           | (have hc := not_t h
              have hf := eq_of_beq (show (f == 15) = true by assumption)
              have h0 : (x != 0) = false := by assumption
              simp only [repOk, hc, h0, hf, Bool.and_false, Bool.false_and]; rfl)
           | (have hc := not_t h
              have h0 : (x != 0) = true := by assumption
              simp only [repOk, hc, h0, Bool.and_false, Bool.false_and, if_true]; done)
           | (simp only [repOk, *, if_true, if_false, Bool.false_eq_true, Bool.true_and, Bool.and_true]; rw [show ((n == 0 && (b.length : Int) == 0 && (r.length : Int) == 0)) = false by simpa using h]; simp)
           | (simp only [repOk, *, if_true]; rw [show decide (f < 128) = false by simp at h ⊢; omega]; simp)
       exact RawK.err0 (by simp [repB, hk]) (by simp [repE, hk]))
    | (have hk : repOk f x a n b r = true := by simp_all [repOk]
       refine RawK.err rfl (by first | rfl | (simp [packN_length, twos_length, two8]; done) | (simp [packN_length, twos_length, two8]; omega)) ?_ (by simp [repE, hk])
       simp only [repB, hk, if_true, repS, *, Bool.false_eq_true, if_false]
       first | rfl | (simp [packN_length, coilN, twos, two8]; done))
end Go.Proofs.Ytomodeliimnddaa
set_option linter.unusedVariables false
set_option linter.unusedSimpArgs false
namespace Go.Proofs.Ytomodeliimnddaa
open Go.Ab
def a58 : ACode := (.seq (.reg [(iO 2 (.box (.t 0))), (iO 4 (.alloc [(2, (.int .u8 0)), (2, (.int .u16 0)), (2, .nils)])), (iO 5 (.mov (.c (.int .i64 0))))])
 (.seq (.reg [(iO 13 (.build [(.int .u8 0), (.int .u8 0), (.int .u16 0), (.int .u16 0), .nils, .nils] [])), (iO 6 (.alloc [(2, (.int .u8 0)), (2, (.int .u16 0)), (2, .nils)])), ⟨none, .store 6 (.t 6) (.t 13), none, false⟩])
 (.seq (.seq (.reg [(iO 15 (.load true 6 (.t 2))), (iO 16 (.call 48 [(.t 15)])), (iM 14 16), (iO 17 (.ext (.t 14) 0)), (iO 18 (.ext (.t 14) 1)), (iM 7 17), (iM 8 18)])
 (.seq (.reg [(iM 19 8), (iO 20 (.bin .neq .other (.t 19) (.c (.int .i64 0)))), ⟨(some 21), .mov (.t 20), none, true⟩, (iG 22 (.mov (.t 1)) 21 false), (iG 23 (.len false (.t 22)) 21 false), (iG 24 (.bin .lss .other (.t 23) (.c (.int .i64 2))) 21 false), (iO 25 (.pick (.t 21) (.c (.bool true)) (.t 24)))])
 (.cond (.t 25) (.seq (.reg [(iO 26 (.load true 6 (.t 6))), ⟨none, .store 6 (.t 4) (.t 26), none, false⟩, (iO 5 (.mov (.c (.int .i64 30))))])
 .ret)
 .skip)))
 (.seq (.seq (.draw [(zS 0 (iM 27 1)), (zS 1 (iO 28 (.idx 1 none false (.t 27) (.c (.int .i64 0))))), (zS 2 (iL 29 28)), (zS 3 (iF 30 0 2)), (zS 4 (iL 31 30)), (zS 5 (iO 32 (.bin .or .other (.t 31) (.c (.int .u8 128))))), (zS 6 (iO 33 (.bin .eql .other (.t 29) (.t 32))))])
 (.cond (.t 33) (.seq (.seq (.reg [(iM 34 1), (iO 35 (.len false (.t 34))), (iO 36 (.bin .neq .other (.t 35) (.c (.int .i64 2)))), ⟨(some 37), .mov (.t 36), none, true⟩, (iG 38 (.mov (.t 1)) 37 false), (iG 39 (.idx 1 none false (.t 38) (.c (.int .i64 1))) 37 false), (iG 40 (.load false 1 (.t 39)) 37 false), (iG 41 (.bin .eql .other (.t 40) (.c (.int .u8 0))) 37 false), (iO 42 (.pick (.t 37) (.c (.bool true)) (.t 41)))])
 (.cond (.t 42) (.seq (.reg [(iO 43 (.load true 6 (.t 6))), ⟨none, .store 6 (.t 4) (.t 43), none, false⟩, (iO 5 (.mov (.c (.int .i64 30))))])
 .ret)
 .skip))
 (.seq (.draw [(zS 0 (iF 44 0 2)), (zS 1 (iL 45 44)), (zS 2 (iM 46 1)), (zS 3 (iO 47 (.idx 1 none false (.t 46) (.c (.int .i64 1))))), (zS 4 (iL 48 47)), (zS 5 (iO 49 (.build [(.int .u8 0), (.int .u8 0), (.int .u16 0), (.int .u16 0), .nils, .nils] [(0, 1, (.t 45)), (1, 1, (.t 48))]))), ⟨6, ⟨none, .store 6 (.t 4) (.t 49), none, false⟩, true, [], []⟩, (zS 7 (iO 5 (.mov (.c (.int .i64 0)))))])
 .ret))
 .skip))
 (.seq (.reg [(iF 50 0 2), (iL 51 50), (iO 52 (.build [(.int .u8 0), (.int .u8 0), (.int .u16 0), (.int .u16 0), .nils, .nils] [(0, 1, (.t 51))])), (iO 9 (.alloc [(2, (.int .u8 0)), (2, (.int .u16 0)), (2, .nils)])), ⟨none, .store 6 (.t 9) (.t 52), none, false⟩])
 (.seq (.seq (.reg [(iF 53 0 2), (iL 54 53)])
 (.block 0 (.seq (.seq (.reg [(iO 56 (.bin .eql .other (.t 54) (.c (.int .u8 1)))), (iM 55 56)])
 (.cond (.t 55) .skip
 (.reg [(iO 57 (.bin .eql .other (.t 54) (.c (.int .u8 2)))), (iM 55 57)])))
 (.cond (.t 55) (.seq (.reg [(iF 58 2 2), (iL 59 58), (iO 60 (.conv (.int .i64) (.t 59))), (iO 61 (.bin .add .other (.t 60) (.c (.int .i64 7)))), (iO 62 (.bin .quo .other (.t 61) (.c (.int .i64 8)))), (iM 10 62)])
 (.seq (.seq (.draw [(zS 0 (iM 63 1)), (zS 1 (iO 64 (.idx 1 none false (.t 63) (.c (.int .i64 0))))), (zS 2 (iL 65 64)), (zS 3 (iF 66 0 2)), (zS 4 (iL 67 66)), (zS 5 (iO 68 (.bin .neq .other (.t 65) (.t 67)))), ⟨6, ⟨(some 69), .mov (.t 68), none, true⟩, false, [], []⟩, (zS 7 (iG 70 (.mov (.t 1)) 69 false)), (zS 8 (iG 71 (.idx 1 none false (.t 70) (.c (.int .i64 1))) 69 false)), (zS 9 (iG 72 (.load false 1 (.t 71)) 69 false)), (zS 10 (iG 73 (.conv (.int .i64) (.t 72)) 69 false)), (zS 11 (iG 74 (.mov (.t 10)) 69 false)), (zS 12 (iG 75 (.bin .neq .other (.t 73) (.t 74)) 69 false)), (zS 13 (iO 76 (.pick (.t 69) (.c (.bool true)) (.t 75)))), ⟨14, ⟨(some 77), .mov (.t 76), none, true⟩, false, [], []⟩, (zS 15 (iG 78 (.mov (.t 1)) 77 false)), (zS 16 (iG 79 (.len false (.t 78)) 77 false)), (zS 17 (iG 80 (.mov (.t 10)) 77 false)), (zS 18 (iG 81 (.bin .add .other (.t 80) (.c (.int .i64 2))) 77 false)), (zS 19 (iG 82 (.bin .neq .other (.t 79) (.t 81)) 77 false)), (zS 20 (iO 83 (.pick (.t 77) (.c (.bool true)) (.t 82))))])
 (.cond (.t 83) (.seq (.reg [(iO 84 (.load true 6 (.t 6))), ⟨none, .store 6 (.t 4) (.t 84), none, false⟩, (iO 5 (.mov (.c (.int .i64 30))))])
 .ret)
 .skip))
 (.seq (.draw [(zS 0 (iM 85 1)), (zS 1 (iO 86 (.slice (.sl 1) (.t 85) (some (.c (.int .i64 2))) none))), (zS 2 (iF 87 2 2)), (zS 3 (iL 88 87)), (zS 4 (iO 89 (.conv (.int .i64) (.t 88)))), ⟨5, (iO 90 (.call 64 [(.t 86), (.t 89)])), true, [], []⟩, (zS 6 (iF 91 4 9)), ⟨7, ⟨none, .store 1 (.t 91) (.t 90), none, false⟩, true, [], []⟩])
 (.seq (.reg [(iO 92 (.load true 6 (.t 9))), ⟨none, .store 6 (.t 4) (.t 92), none, false⟩, (iO 5 (.mov (.c (.int .i64 0))))])
 .ret))))
 (.seq (.seq (.reg [(iO 94 (.bin .eql .other (.t 54) (.c (.int .u8 3)))), (iM 93 94)])
 (.cond (.t 93) .skip
 (.seq (.reg [(iO 95 (.bin .eql .other (.t 54) (.c (.int .u8 4)))), (iM 93 95)])
 (.cond (.t 93) .skip
 (.reg [(iO 96 (.bin .eql .other (.t 54) (.c (.int .u8 23)))), (iM 93 96)])))))
 (.cond (.t 93) (.seq (.reg [(iM 97 1), (iO 98 (.slice (.sl 1) (.t 97) (some (.c (.int .i64 2))) none)), (iO 99 (.call 121 [(.t 98)])), (iF 100 5 9), ⟨none, .store 1 (.t 100) (.t 99), none, false⟩])
 (.seq (.reg [(iF 101 5 9), (iL 102 101), (iO 103 (.len false (.t 102))), (iF 104 2 2), (iL 105 104), (iO 106 (.conv (.int .i64) (.t 105))), (iO 107 (.bin .neq .other (.t 103) (.t 106)))])
 (.cond (.t 107) (.seq (.reg [(iO 108 (.load true 6 (.t 6))), ⟨none, .store 6 (.t 4) (.t 108), none, false⟩, (iO 5 (.mov (.c (.int .i64 30))))])
 .ret)
 .skip)))
 (.seq (.seq (.reg [(iO 110 (.bin .eql .other (.t 54) (.c (.int .u8 5)))), (iM 109 110)])
 (.cond (.t 109) .skip
 (.seq (.reg [(iO 111 (.bin .eql .other (.t 54) (.c (.int .u8 6)))), (iM 109 111)])
 (.cond (.t 109) .skip
 (.reg [(iO 112 (.bin .eql .other (.t 54) (.c (.int .u8 22)))), (iM 109 112)])))))
 (.cond (.t 109) (.draw [(zS 0 (iF 113 1 2)), (zS 1 (iL 114 113)), (zS 2 (iF 115 4 2)), (zS 3 (iL 116 115)), (zS 5 (iF 118 5 2)), (zS 6 (iL 119 118)), (zS 8 (iF 121 2 9)), ⟨4, (iO 117 (.call 122 [(.t 116)])), true, [], [(.t 113), (.t 118)]⟩, ⟨7, (iO 120 (.call 101 [(.t 119)])), true, [], [(.t 113)]⟩, ⟨9, ⟨none, .store 1 (.t 121) (.t 114), none, false⟩, true, [], []⟩, (zS 10 (iF 122 4 9)), ⟨11, ⟨none, .store 1 (.t 122) (.t 117), none, false⟩, true, [], []⟩, (zS 12 (iF 123 5 9)), ⟨13, ⟨none, .store 1 (.t 123) (.t 120), none, false⟩, true, [], []⟩])
 (.seq (.reg [(iO 125 (.bin .eql .other (.t 54) (.c (.int .u8 15)))), (iM 124 125)])
 (.cond (.t 124) (.draw [(zS 0 (iF 126 1 2)), (zS 1 (iL 127 126)), (zS 2 (iF 128 4 2)), (zS 3 (iL 129 128)), (zS 4 (iO 130 (.len false (.t 129)))), (zS 5 (iO 131 (.conv (.int .u16) (.t 130)))), (zS 6 (iF 132 2 9)), ⟨7, ⟨none, .store 1 (.t 132) (.t 127), none, false⟩, true, [], [(.t 128)]⟩, (zS 8 (iF 133 3 9)), ⟨9, ⟨none, .store 1 (.t 133) (.t 131), none, false⟩, true, [], []⟩])
 (.seq (.reg [(iO 135 (.bin .eql .other (.t 54) (.c (.int .u8 16)))), (iM 134 135)])
 (.cond (.t 134) (.draw [(zS 0 (iF 136 1 2)), (zS 1 (iL 137 136)), (zS 2 (iF 138 5 2)), (zS 3 (iL 139 138)), (zS 4 (iO 140 (.len false (.t 139)))), (zS 5 (iO 141 (.conv (.int .u16) (.t 140)))), (zS 6 (iF 142 2 9)), ⟨7, ⟨none, .store 1 (.t 142) (.t 137), none, false⟩, true, [], [(.t 138)]⟩, (zS 8 (iF 143 3 9)), ⟨9, ⟨none, .store 1 (.t 143) (.t 141), none, false⟩, true, [], []⟩])
 .skip))))))))))))
 (.seq (.seq (.reg [(iO 145 (.load true 6 (.t 9))), (iO 146 (.call 56 [(.t 145)])), (iM 144 146), (iO 147 (.ext (.t 144) 0)), (iO 148 (.ext (.t 144) 1)), (iM 11 147), (iM 12 148)])
 (.seq (.reg [(iM 149 12), (iO 150 (.bin .neq .other (.t 149) (.c (.int .i64 0)))), ⟨(some 151), .mov (.t 150), none, true⟩, (iG 152 (.mov (.t 11)) 151 false), (iG 153 (.mov (.t 1)) 151 false), (iG 154 (.call 115 [(.t 152), (.t 153)]) 151 false), (iG 155 (.un .not (.t 154)) 151 false), (iO 156 (.pick (.t 151) (.c (.bool true)) (.t 155)))])
 (.cond (.t 156) (.seq (.reg [(iO 157 (.load true 6 (.t 6))), ⟨none, .store 6 (.t 4) (.t 157), none, false⟩, (iO 5 (.mov (.c (.int .i64 30))))])
 .ret)
 .skip)))
 (.seq (.reg [(iO 158 (.load true 6 (.t 9))), ⟨none, .store 6 (.t 4) (.t 158), none, false⟩, (iO 5 (.mov (.c (.int .i64 0))))])
 .ret))))))))
def r58 : List ARes := [.cell 4 true 6, .t 5]
theorem c58 : compF Try.prog Try.f58 = some (a58, r58) := by kernel_rfl
theorem b58 : hasBody Try.prog 58 = true := by kernel_rfl
theorem g58 : Try.prog.funcs[58]? = some Try.f58 := by kernel_rfl
theorem leRepN {f a n a2 : Int} {B R : AV} {b : List Bool} {r : List Int} (hb : Le B (.roB b)) (hr : Le R (.roI .u16 r)) : LeL [repA f a n a2 B R] [repA f a n a2 (.roB b) (.roI .u16 r)] :=
  ⟨Le.agg ⟨Le.refl _, Le.refl _, Le.refl _, Le.refl _, hb, hr, trivial⟩, trivial⟩
theorem leRep {f x a n : Int} {B R : AV} {e e' : Int} {f' x' a' n' : Int} {b : List Bool} {r : List Int} (hf : f = f') (hx : x = x') (ha : a = a') (hn : n = n') (hb : Le B (.roB b)) (hr : Le R (.roI .u16 r)) (he : e = e') :
    Le (.tup [repA f x a n B R, .int .i64 e]) (.tup [repA f' x' a' n' (.roB b) (.roI .u16 r), .int .i64 e']) := by
  subst hf; subst ha; subst hn; subst hx; subst he
  exact Le.tup ⟨Le.agg ⟨Le.refl _, Le.refl _, Le.refl _, Le.refl _, hb, hr, trivial⟩, Le.refl _, trivial⟩
theorem bytes_ev (l m : List Int) : Ev Try.prog 50 [.roI .u8 l, .roI .u8 m] (.bool ((bytesStr l).toList == (bytesStr m).toList)) := ⟨rfl, bytes_tr l m⟩
end Go.Proofs.Ytomodeliimnddaa
