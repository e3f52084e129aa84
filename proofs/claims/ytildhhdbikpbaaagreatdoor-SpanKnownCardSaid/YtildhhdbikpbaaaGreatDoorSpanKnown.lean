/- these texts say just these -/
import Derived.Test.YtildhhdbikpbaaaGreatDoorV5
import Derived.Test.YtildhhdbikpbaaaGreatDoorV2
import Derived.Test.YtildhhdbikpbaaaGreatDoorRows
import Derived.Test.YtildhhdbikpbaaaGreatDoorTie
import Derived.Test.YtildhhdbikpbaaaGreatDoorCards
import Derived.Test.YtildhhdbikpbaaaGreatDoorV4
import Derived.WalkKit
import Derived.ProofKit
import Derived.OpenShut
import Derived.ShutString
import Derived.ChangeOld
import Derived.Below
import Derived.SizedLaws
import Derived.LaidMore
import Derived.Lay
import Derived.SevenTiedAt
import Derived.Stop.Joined
import Derived.KernelRfl
set_option linter.unusedSimpArgs false
/-! SpanKnown -/
namespace Go.Vx.Z
open Go Go.Vx
set_option linter.unusedVariables false
set_option maxRecDepth 1000000
theorem nf_sorted {l : List (Pt × Pt)} (h : (l.filter Pc.full).Pairwise fun p q => p.1 ≤ q.1) : Pc.nf l = (l.filter Pc.full).foldl Pc.mrg [] := (Pc.sorted_nf (.refl _) h).symm
theorem orS_two {L M R : List Span} (h : (((L ++ M).map kOf).filter Pc.full).Pairwise fun p q => p.1 ≤ q.1) (e : ((((L ++ M).map kOf).filter Pc.full).foldl Pc.mrg []).map spanP = R) : orS L M = R := by
  unfold orS
  rw [nf_sorted h, e]
theorem notS_one {L R : List Span} (h : ((Pc.gaps pBeg (L.map kOf) pEnd).filter Pc.full).Pairwise fun p q => p.1 ≤ q.1) (e : (((Pc.gaps pBeg (L.map kOf) pEnd).filter Pc.full).foldl Pc.mrg []).map spanP = R) : notS L = R := by
  unfold notS
  rw [nf_sorted h, e]
theorem andS_all {L R : List Span} (h : ((Pc.meets (allS.map kOf) (L.map kOf)).filter Pc.full).Pairwise fun p q => p.1 ≤ q.1) (e : (((Pc.meets (allS.map kOf) (L.map kOf)).filter Pc.full).foldl Pc.mrg []).map spanP = R) : andS allS L = R := by
  unfold andS
  rw [nf_sorted h, e]
theorem kg0 : goP (lex [42]) [] allS .start = .inl [(0, 0, 0, (lit [48]), 0, 0, 0, (lit []), false, false, true, ())] := by kernel_rfl
theorem kt0 : F34 ([(0, 0, 0, (lit [48]), 0, 0, 0, (lit []), false, false, true, ())], ()) = some (lit [91, 118, 48, 46, 48, 46, 48, 45, 48, 44, 41], ()) := by kernel_rfl
theorem kg1 : goP (lex [118, 49, 46, 48, 46, 48]) [] allS .start = .inl [(1, 0, 0, (lit []), 1, 0, 0, (lit []), false, true, false, ())] := by kernel_rfl
theorem kt1 : F34 ([(1, 0, 0, (lit []), 1, 0, 0, (lit []), false, true, false, ())], ()) = some (lit [91, 118, 49, 46, 48, 46, 48, 44, 118, 49, 46, 48, 46, 48, 93], ()) := by kernel_rfl
theorem kg2 : goP (lex [61, 118, 49, 46, 48, 46, 48]) [] allS .start = .inl [(1, 0, 0, (lit []), 1, 0, 0, (lit []), false, true, false, ())] := by kernel_rfl
theorem kt2 : F34 ([(1, 0, 0, (lit []), 1, 0, 0, (lit []), false, true, false, ())], ()) = some (lit [91, 118, 49, 46, 48, 46, 48, 44, 118, 49, 46, 48, 46, 48, 93], ()) := by kernel_rfl
theorem kg3 : goP (lex [33, 61, 118, 49, 46, 48, 46, 48]) [] allS .start = .inl [(0, 0, 0, (lit [48]), 1, 0, 0, (lit []), false, false, false, ()), (1, 0, 0, (lit []), 0, 0, 0, (lit []), true, false, true, ())] := by
  have h0 : goP (lex [33, 61, 118, 49, 46, 48, 46, 48]) [] allS .start = .inl (orS [] (andS allS (notS [(1, 0, 0, (lit []), 1, 0, 0, (lit []), false, true, false, ())]))) := by kernel_rfl
  have h1 : notS [(1, 0, 0, (lit []), 1, 0, 0, (lit []), false, true, false, ())] = [(0, 0, 0, (lit [48]), 1, 0, 0, (lit []), false, false, false, ()), (1, 0, 0, (lit []), 0, 0, 0, (lit []), true, false, true, ())] := notS_one (by decide) (by kernel_rfl)
  have h2 : andS allS [(0, 0, 0, (lit [48]), 1, 0, 0, (lit []), false, false, false, ()), (1, 0, 0, (lit []), 0, 0, 0, (lit []), true, false, true, ())] = [(0, 0, 0, (lit [48]), 1, 0, 0, (lit []), false, false, false, ()), (1, 0, 0, (lit []), 0, 0, 0, (lit []), true, false, true, ())] := andS_all (by decide) (by kernel_rfl)
  have h3 : orS [] [(0, 0, 0, (lit [48]), 1, 0, 0, (lit []), false, false, false, ()), (1, 0, 0, (lit []), 0, 0, 0, (lit []), true, false, true, ())] = [(0, 0, 0, (lit [48]), 1, 0, 0, (lit []), false, false, false, ()), (1, 0, 0, (lit []), 0, 0, 0, (lit []), true, false, true, ())] := orS_two (by decide) (by kernel_rfl)
  rw [h0, h1, h2, h3]
theorem kt3 : F34 ([(0, 0, 0, (lit [48]), 1, 0, 0, (lit []), false, false, false, ()), (1, 0, 0, (lit []), 0, 0, 0, (lit []), true, false, true, ())], ()) = some (lit [91, 118, 48, 46, 48, 46, 48, 45, 48, 44, 118, 49, 46, 48, 46, 48, 41, 32, 124, 124, 32, 40, 118, 49, 46, 48, 46, 48, 44, 41], ()) := by kernel_rfl
theorem kg4 : goP (lex [62, 118, 49, 46, 48, 46, 48]) [] allS .start = .inl [(1, 0, 0, (lit []), 0, 0, 0, (lit []), true, false, true, ())] := by kernel_rfl
theorem kt4 : F34 ([(1, 0, 0, (lit []), 0, 0, 0, (lit []), true, false, true, ())], ()) = some (lit [40, 118, 49, 46, 48, 46, 48, 44, 41], ()) := by kernel_rfl
theorem kg5 : goP (lex [60, 61, 118, 49, 46, 48, 46, 48]) [] allS .start = .inl [(0, 0, 0, (lit [48]), 1, 0, 0, (lit []), false, true, false, ())] := by kernel_rfl
theorem kt5 : F34 ([(0, 0, 0, (lit [48]), 1, 0, 0, (lit []), false, true, false, ())], ()) = some (lit [91, 118, 48, 46, 48, 46, 48, 45, 48, 44, 118, 49, 46, 48, 46, 48, 93], ()) := by kernel_rfl
theorem kg6 : goP (lex [94, 118, 48, 46, 50, 46, 51]) [] allS .start = .inl [(0, 2, 3, (lit []), 0, 3, 0, (lit [48]), false, false, false, ())] := by kernel_rfl
theorem kt6 : F34 ([(0, 2, 3, (lit []), 0, 3, 0, (lit [48]), false, false, false, ())], ()) = some (lit [91, 118, 48, 46, 50, 46, 51, 44, 118, 48, 46, 51, 46, 48, 45, 48, 41], ()) := by kernel_rfl
theorem kg7 : goP (lex [94, 118, 48, 46, 48, 46, 51]) [] allS .start = .inl [(0, 0, 3, (lit []), 0, 0, 4, (lit [48]), false, false, false, ())] := by kernel_rfl
theorem kt7 : F34 ([(0, 0, 3, (lit []), 0, 0, 4, (lit [48]), false, false, false, ())], ()) = some (lit [91, 118, 48, 46, 48, 46, 51, 44, 118, 48, 46, 48, 46, 52, 45, 48, 41], ()) := by kernel_rfl
theorem kg8 : goP (lex [126, 118, 49, 46, 50, 46, 51]) [] allS .start = .inl [(1, 2, 3, (lit []), 1, 3, 0, (lit [48]), false, false, false, ())] := by kernel_rfl
theorem kt8 : F34 ([(1, 2, 3, (lit []), 1, 3, 0, (lit [48]), false, false, false, ())], ()) = some (lit [91, 118, 49, 46, 50, 46, 51, 44, 118, 49, 46, 51, 46, 48, 45, 48, 41], ()) := by kernel_rfl
theorem kg9 : goP (lex [118, 49, 46, 120]) [] allS .start = .inl [(1, 0, 0, (lit [48]), 2, 0, 0, (lit [48]), false, false, false, ())] := by kernel_rfl
theorem kt9 : F34 ([(1, 0, 0, (lit [48]), 2, 0, 0, (lit [48]), false, false, false, ())], ()) = some (lit [91, 118, 49, 46, 48, 46, 48, 45, 48, 44, 118, 50, 46, 48, 46, 48, 45, 48, 41], ()) := by kernel_rfl
theorem kg10 : goP (lex [118, 49, 46, 50, 46, 120]) [] allS .start = .inl [(1, 2, 0, (lit [48]), 1, 3, 0, (lit [48]), false, false, false, ())] := by kernel_rfl
theorem kt10 : F34 ([(1, 2, 0, (lit [48]), 1, 3, 0, (lit [48]), false, false, false, ())], ()) = some (lit [91, 118, 49, 46, 50, 46, 48, 45, 48, 44, 118, 49, 46, 51, 46, 48, 45, 48, 41], ()) := by kernel_rfl
theorem kg11 : goP (lex [118, 57, 57, 57, 57, 57, 57, 46, 120]) [] allS .start = .inl [(999999, 0, 0, (lit [48]), 0, 0, 0, (lit []), false, false, true, ())] := by kernel_rfl
theorem kt11 : F34 ([(999999, 0, 0, (lit [48]), 0, 0, 0, (lit []), false, false, true, ())], ()) = some (lit [91, 118, 57, 57, 57, 57, 57, 57, 46, 48, 46, 48, 45, 48, 44, 41], ()) := by kernel_rfl
theorem kg12 : goP (lex [118, 49, 46, 48, 46, 48, 32, 45, 32, 118, 50, 46, 48, 46, 48]) [] allS .start = .inl [(1, 0, 0, (lit []), 2, 0, 0, (lit []), false, true, false, ())] := by kernel_rfl
theorem kt12 : F34 ([(1, 0, 0, (lit []), 2, 0, 0, (lit []), false, true, false, ())], ()) = some (lit [91, 118, 49, 46, 48, 46, 48, 44, 118, 50, 46, 48, 46, 48, 93], ()) := by kernel_rfl
theorem kg13 : goP (lex [62, 61, 118, 49, 46, 48, 46, 48, 32, 60, 118, 50, 46, 48, 46, 48]) [] allS .start = .inl [(1, 0, 0, (lit []), 2, 0, 0, (lit []), false, false, false, ())] := by kernel_rfl
theorem kt13 : F34 ([(1, 0, 0, (lit []), 2, 0, 0, (lit []), false, false, false, ())], ()) = some (lit [91, 118, 49, 46, 48, 46, 48, 44, 118, 50, 46, 48, 46, 48, 41], ()) := by kernel_rfl
theorem kg14 : goP (lex [118, 49, 46, 48, 46, 48, 32, 124, 124, 32, 118, 50, 46, 48, 46, 48]) [] allS .start = .inl [(1, 0, 0, (lit []), 1, 0, 0, (lit []), false, true, false, ()), (2, 0, 0, (lit []), 2, 0, 0, (lit []), false, true, false, ())] := by
  have h0 : goP (lex [118, 49, 46, 48, 46, 48, 32, 124, 124, 32, 118, 50, 46, 48, 46, 48]) [] allS .start = .inl (orS [(1, 0, 0, (lit []), 1, 0, 0, (lit []), false, true, false, ())] [(2, 0, 0, (lit []), 2, 0, 0, (lit []), false, true, false, ())]) := by kernel_rfl
  have h3 : orS [(1, 0, 0, (lit []), 1, 0, 0, (lit []), false, true, false, ())] [(2, 0, 0, (lit []), 2, 0, 0, (lit []), false, true, false, ())] = [(1, 0, 0, (lit []), 1, 0, 0, (lit []), false, true, false, ()), (2, 0, 0, (lit []), 2, 0, 0, (lit []), false, true, false, ())] := orS_two (by decide) (by kernel_rfl)
  rw [h0, h3]
theorem kt14 : F34 ([(1, 0, 0, (lit []), 1, 0, 0, (lit []), false, true, false, ()), (2, 0, 0, (lit []), 2, 0, 0, (lit []), false, true, false, ())], ()) = some (lit [91, 118, 49, 46, 48, 46, 48, 44, 118, 49, 46, 48, 46, 48, 93, 32, 124, 124, 32, 91, 118, 50, 46, 48, 46, 48, 44, 118, 50, 46, 48, 46, 48, 93], ()) := by kernel_rfl
theorem kg15 : goP (lex [118, 49, 46, 48, 46, 48, 32, 118, 50, 46, 48, 46, 48]) [] allS .start = .inl [] := by kernel_rfl
theorem kt15 : F34 ([], ()) = some (lit [45], ()) := by kernel_rfl
theorem kg16 : goP (lex [94, 118, 49, 46, 50, 46, 51, 45, 114, 99]) [] allS .start = .inl [(1, 2, 3, (lit [114, 99]), 2, 0, 0, (lit [48]), false, false, false, ())] := by kernel_rfl
theorem kt16 : F34 ([(1, 2, 3, (lit [114, 99]), 2, 0, 0, (lit [48]), false, false, false, ())], ()) = some (lit [91, 118, 49, 46, 50, 46, 51, 45, 114, 99, 44, 118, 50, 46, 48, 46, 48, 45, 48, 41], ()) := by kernel_rfl
theorem kg17 : goP (lex [126, 118, 49, 46, 57, 57, 57, 57, 57, 57, 46, 48]) [] allS .start = .inl [(1, 999999, 0, (lit []), 2, 0, 0, (lit [48]), false, false, false, ())] := by kernel_rfl
theorem kt17 : F34 ([(1, 999999, 0, (lit []), 2, 0, 0, (lit [48]), false, false, false, ())], ()) = some (lit [91, 118, 49, 46, 57, 57, 57, 57, 57, 57, 46, 48, 44, 118, 50, 46, 48, 46, 48, 45, 48, 41], ()) := by kernel_rfl
theorem kg18 : goP (lex [94, 118, 48, 46, 57, 57, 57, 57, 57, 57, 46, 48]) [] allS .start = .inl [(0, 999999, 0, (lit []), 1, 0, 0, (lit [48]), false, false, false, ())] := by kernel_rfl
theorem kt18 : F34 ([(0, 999999, 0, (lit []), 1, 0, 0, (lit [48]), false, false, false, ())], ()) = some (lit [91, 118, 48, 46, 57, 57, 57, 57, 57, 57, 46, 48, 44, 118, 49, 46, 48, 46, 48, 45, 48, 41], ()) := by kernel_rfl
theorem kg19 : goP (lex [94, 118, 48, 46, 48, 46, 57, 57, 57, 57, 57, 57]) [] allS .start = .inl [(0, 0, 999999, (lit []), 0, 1, 0, (lit [48]), false, false, false, ())] := by kernel_rfl
theorem kt19 : F34 ([(0, 0, 999999, (lit []), 0, 1, 0, (lit [48]), false, false, false, ())], ()) = some (lit [91, 118, 48, 46, 48, 46, 57, 57, 57, 57, 57, 57, 44, 118, 48, 46, 49, 46, 48, 45, 48, 41], ()) := by kernel_rfl
theorem kg20 : goP (lex [60, 118, 48, 46, 48, 46, 48, 45, 48]) [] allS .start = .inl [] := by kernel_rfl
theorem kt20 : F34 ([], ()) = some (lit [45], ()) := by kernel_rfl
theorem kg21 : goP (lex [118, 50, 46, 48, 46, 48, 32, 45, 32, 118, 49, 46, 48, 46, 48]) [] allS .start = .inl [] := by kernel_rfl
theorem kt21 : F34 ([], ()) = some (lit [45], ()) := by kernel_rfl
theorem kg22 : goP (lex [94, 118, 49, 46, 48, 46, 48, 32, 124, 124, 32, 94, 118, 50, 46, 48, 46, 48]) [] allS .start = .inl [(1, 0, 0, (lit []), 2, 0, 0, (lit [48]), false, false, false, ()), (2, 0, 0, (lit []), 3, 0, 0, (lit [48]), false, false, false, ())] := by
  have h0 : goP (lex [94, 118, 49, 46, 48, 46, 48, 32, 124, 124, 32, 94, 118, 50, 46, 48, 46, 48]) [] allS .start = .inl (orS [(1, 0, 0, (lit []), 2, 0, 0, (lit [48]), false, false, false, ())] [(2, 0, 0, (lit []), 3, 0, 0, (lit [48]), false, false, false, ())]) := by kernel_rfl
  have h3 : orS [(1, 0, 0, (lit []), 2, 0, 0, (lit [48]), false, false, false, ())] [(2, 0, 0, (lit []), 3, 0, 0, (lit [48]), false, false, false, ())] = [(1, 0, 0, (lit []), 2, 0, 0, (lit [48]), false, false, false, ()), (2, 0, 0, (lit []), 3, 0, 0, (lit [48]), false, false, false, ())] := orS_two (by decide) (by kernel_rfl)
  rw [h0, h3]
theorem kt22 : F34 ([(1, 0, 0, (lit []), 2, 0, 0, (lit [48]), false, false, false, ()), (2, 0, 0, (lit []), 3, 0, 0, (lit [48]), false, false, false, ())], ()) = some (lit [91, 118, 49, 46, 48, 46, 48, 44, 118, 50, 46, 48, 46, 48, 45, 48, 41, 32, 124, 124, 32, 91, 118, 50, 46, 48, 46, 48, 44, 118, 51, 46, 48, 46, 48, 45, 48, 41], ()) := by kernel_rfl
theorem kg23 : goP (lex [94, 118, 57, 57, 57, 57, 57, 57, 46, 49, 46, 48]) [] allS .start = .inl [(999999, 1, 0, (lit []), 0, 0, 0, (lit []), false, false, true, ())] := by kernel_rfl
theorem kt23 : F34 ([(999999, 1, 0, (lit []), 0, 0, 0, (lit []), false, false, true, ())], ()) = some (lit [91, 118, 57, 57, 57, 57, 57, 57, 46, 49, 46, 48, 44, 41], ()) := by kernel_rfl
theorem parse_bytes {l : List UInt8} {R : List Span} (hs : l.length ≤ 400000) (hl : low l = true) (h : goP (lex l) [] allS .start = .inl R) : F30 (lit l, ()) = some (R, 0, 0, ()) := parse_of (s := lit l) hs hl h
theorem pure_SpanKnown (x0 : Int) (h0 : (Lit.int .i64 x0).wf = true) : F10 (x0, ()) = some (true, ()) := by
  obtain ⟨k, hk, fk⟩ := F29_is x0 24 (by omega) (by omega)
  have fk' : F29 (x0, Int.ofNat 24, ()) = some ((k : Int), ()) := fk
  rw [F10_eq, fk', obs]
  simp only
  rw [ge_zero, cT, Int.toNat_natCast]
  by_cases e0 : k = 0
  · subst e0
    show Option.bind (some (lit [42])) _ = _
    rw [obs, parse_bytes (by decide) (by decide) kg0, obs]
    simp only
    rw [show ((0 : Int) == Int.ofNat 0) = true from rfl, cT, kt0, obs, cT]
    rfl
  by_cases e1 : k = 1
  · subst e1
    show Option.bind (some (lit [118, 49, 46, 48, 46, 48])) _ = _
    rw [obs, parse_bytes (by decide) (by decide) kg1, obs]
    simp only
    rw [show ((0 : Int) == Int.ofNat 0) = true from rfl, cT, kt1, obs, cT]
    rfl
  by_cases e2 : k = 2
  · subst e2
    show Option.bind (some (lit [61, 118, 49, 46, 48, 46, 48])) _ = _
    rw [obs, parse_bytes (by decide) (by decide) kg2, obs]
    simp only
    rw [show ((0 : Int) == Int.ofNat 0) = true from rfl, cT, kt2, obs, cT]
    rfl
  by_cases e3 : k = 3
  · subst e3
    show Option.bind (some (lit [33, 61, 118, 49, 46, 48, 46, 48])) _ = _
    rw [obs, parse_bytes (by decide) (by decide) kg3, obs]
    simp only
    rw [show ((0 : Int) == Int.ofNat 0) = true from rfl, cT, kt3, obs, cT]
    rfl
  by_cases e4 : k = 4
  · subst e4
    show Option.bind (some (lit [62, 118, 49, 46, 48, 46, 48])) _ = _
    rw [obs, parse_bytes (by decide) (by decide) kg4, obs]
    simp only
    rw [show ((0 : Int) == Int.ofNat 0) = true from rfl, cT, kt4, obs, cT]
    rfl
  by_cases e5 : k = 5
  · subst e5
    show Option.bind (some (lit [60, 61, 118, 49, 46, 48, 46, 48])) _ = _
    rw [obs, parse_bytes (by decide) (by decide) kg5, obs]
    simp only
    rw [show ((0 : Int) == Int.ofNat 0) = true from rfl, cT, kt5, obs, cT]
    rfl
  by_cases e6 : k = 6
  · subst e6
    show Option.bind (some (lit [94, 118, 48, 46, 50, 46, 51])) _ = _
    rw [obs, parse_bytes (by decide) (by decide) kg6, obs]
    simp only
    rw [show ((0 : Int) == Int.ofNat 0) = true from rfl, cT, kt6, obs, cT]
    rfl
  by_cases e7 : k = 7
  · subst e7
    show Option.bind (some (lit [94, 118, 48, 46, 48, 46, 51])) _ = _
    rw [obs, parse_bytes (by decide) (by decide) kg7, obs]
    simp only
    rw [show ((0 : Int) == Int.ofNat 0) = true from rfl, cT, kt7, obs, cT]
    rfl
  by_cases e8 : k = 8
  · subst e8
    show Option.bind (some (lit [126, 118, 49, 46, 50, 46, 51])) _ = _
    rw [obs, parse_bytes (by decide) (by decide) kg8, obs]
    simp only
    rw [show ((0 : Int) == Int.ofNat 0) = true from rfl, cT, kt8, obs, cT]
    rfl
  by_cases e9 : k = 9
  · subst e9
    show Option.bind (some (lit [118, 49, 46, 120])) _ = _
    rw [obs, parse_bytes (by decide) (by decide) kg9, obs]
    simp only
    rw [show ((0 : Int) == Int.ofNat 0) = true from rfl, cT, kt9, obs, cT]
    rfl
  by_cases e10 : k = 10
  · subst e10
    show Option.bind (some (lit [118, 49, 46, 50, 46, 120])) _ = _
    rw [obs, parse_bytes (by decide) (by decide) kg10, obs]
    simp only
    rw [show ((0 : Int) == Int.ofNat 0) = true from rfl, cT, kt10, obs, cT]
    rfl
  by_cases e11 : k = 11
  · subst e11
    show Option.bind (some (lit [118, 57, 57, 57, 57, 57, 57, 46, 120])) _ = _
    rw [obs, parse_bytes (by decide) (by decide) kg11, obs]
    simp only
    rw [show ((0 : Int) == Int.ofNat 0) = true from rfl, cT, kt11, obs, cT]
    rfl
  by_cases e12 : k = 12
  · subst e12
    show Option.bind (some (lit [118, 49, 46, 48, 46, 48, 32, 45, 32, 118, 50, 46, 48, 46, 48])) _ = _
    rw [obs, parse_bytes (by decide) (by decide) kg12, obs]
    simp only
    rw [show ((0 : Int) == Int.ofNat 0) = true from rfl, cT, kt12, obs, cT]
    rfl
  by_cases e13 : k = 13
  · subst e13
    show Option.bind (some (lit [62, 61, 118, 49, 46, 48, 46, 48, 32, 60, 118, 50, 46, 48, 46, 48])) _ = _
    rw [obs, parse_bytes (by decide) (by decide) kg13, obs]
    simp only
    rw [show ((0 : Int) == Int.ofNat 0) = true from rfl, cT, kt13, obs, cT]
    rfl
  by_cases e14 : k = 14
  · subst e14
    show Option.bind (some (lit [118, 49, 46, 48, 46, 48, 32, 124, 124, 32, 118, 50, 46, 48, 46, 48])) _ = _
    rw [obs, parse_bytes (by decide) (by decide) kg14, obs]
    simp only
    rw [show ((0 : Int) == Int.ofNat 0) = true from rfl, cT, kt14, obs, cT]
    rfl
  by_cases e15 : k = 15
  · subst e15
    show Option.bind (some (lit [118, 49, 46, 48, 46, 48, 32, 118, 50, 46, 48, 46, 48])) _ = _
    rw [obs, parse_bytes (by decide) (by decide) kg15, obs]
    simp only
    rw [show ((0 : Int) == Int.ofNat 0) = true from rfl, cT, kt15, obs, cT]
    rfl
  by_cases e16 : k = 16
  · subst e16
    show Option.bind (some (lit [94, 118, 49, 46, 50, 46, 51, 45, 114, 99])) _ = _
    rw [obs, parse_bytes (by decide) (by decide) kg16, obs]
    simp only
    rw [show ((0 : Int) == Int.ofNat 0) = true from rfl, cT, kt16, obs, cT]
    rfl
  by_cases e17 : k = 17
  · subst e17
    show Option.bind (some (lit [126, 118, 49, 46, 57, 57, 57, 57, 57, 57, 46, 48])) _ = _
    rw [obs, parse_bytes (by decide) (by decide) kg17, obs]
    simp only
    rw [show ((0 : Int) == Int.ofNat 0) = true from rfl, cT, kt17, obs, cT]
    rfl
  by_cases e18 : k = 18
  · subst e18
    show Option.bind (some (lit [94, 118, 48, 46, 57, 57, 57, 57, 57, 57, 46, 48])) _ = _
    rw [obs, parse_bytes (by decide) (by decide) kg18, obs]
    simp only
    rw [show ((0 : Int) == Int.ofNat 0) = true from rfl, cT, kt18, obs, cT]
    rfl
  by_cases e19 : k = 19
  · subst e19
    show Option.bind (some (lit [94, 118, 48, 46, 48, 46, 57, 57, 57, 57, 57, 57])) _ = _
    rw [obs, parse_bytes (by decide) (by decide) kg19, obs]
    simp only
    rw [show ((0 : Int) == Int.ofNat 0) = true from rfl, cT, kt19, obs, cT]
    rfl
  by_cases e20 : k = 20
  · subst e20
    show Option.bind (some (lit [60, 118, 48, 46, 48, 46, 48, 45, 48])) _ = _
    rw [obs, parse_bytes (by decide) (by decide) kg20, obs]
    simp only
    rw [show ((0 : Int) == Int.ofNat 0) = true from rfl, cT, kt20, obs, cT]
    rfl
  by_cases e21 : k = 21
  · subst e21
    show Option.bind (some (lit [118, 50, 46, 48, 46, 48, 32, 45, 32, 118, 49, 46, 48, 46, 48])) _ = _
    rw [obs, parse_bytes (by decide) (by decide) kg21, obs]
    simp only
    rw [show ((0 : Int) == Int.ofNat 0) = true from rfl, cT, kt21, obs, cT]
    rfl
  by_cases e22 : k = 22
  · subst e22
    show Option.bind (some (lit [94, 118, 49, 46, 48, 46, 48, 32, 124, 124, 32, 94, 118, 50, 46, 48, 46, 48])) _ = _
    rw [obs, parse_bytes (by decide) (by decide) kg22, obs]
    simp only
    rw [show ((0 : Int) == Int.ofNat 0) = true from rfl, cT, kt22, obs, cT]
    rfl
  by_cases e23 : k = 23
  · subst e23
    show Option.bind (some (lit [94, 118, 57, 57, 57, 57, 57, 57, 46, 49, 46, 48])) _ = _
    rw [obs, parse_bytes (by decide) (by decide) kg23, obs]
    simp only
    rw [show ((0 : Int) == Int.ofNat 0) = true from rfl, cT, kt23, obs, cT]
    rfl
  exact absurd hk (by omega)
end Go.Vx.Z
namespace Go.Proofs.YtildhhdbikpbaaaGreatDoor
open Go Go.Vx Go.ChangeShapes Go.WideShapes Go.ChangeAt Go.RowKit
open Go.ChangeMaps (open_string shut_string)
set_option linter.unusedVariables false
namespace spanKnown
theorem own : ownKnob Tryz.prog.godebug = none := by kernel_rfl
theorem laidOut : laidOutB Tryz.prog = true := by kernel_rfl
set_option maxRecDepth 100000 in
theorem lifted (os : Os) (started : os.Started) (H : Type) (enc : TypeId × Value → H) :
    ReturnsInHanded {} Tryz.checked os 10 .any (fun w args => (Rows.spanKnownSpec.pre enc Tryz.prog Tryz.f10 Rows.spanKnownRow.domain false w args ∧ laidMetH Tryz.prog Rows.spanKnownRow.laid w) ∧ sizedMet enc Tryz.prog Tryz.f10 (OpenSpec.ofChange Rows.spanKnownSpec) false w args)
      (Rows.spanKnownSpec.post enc Tryz.prog Tryz.f10 false true false false) := by
  refine returnsInHanded_of_change_and (C := Tryz.checked) (X := fun w _ => laidMetH Tryz.prog Rows.spanKnownRow.laid w) (fun _ _ _ hh h => h.of_heap hh) own started (by kernel_rfl) Tryz.func10
    (ChangeSpec.witness_shaped (enc := enc) (C := Tryz.checked) (os := os) (X := fun w _ => laidMetH Tryz.prog Rows.spanKnownRow.laid w) false (World.laidAll Tryz.prog os Rows.spanKnownRow.laid) #[.int .i64 0] 8 (World.laidAll_os _ _ _)
      (World.shaped_of_ZipB (by kernel_rfl) (by kernel_rfl)) (by kernel_rfl) (by kernel_rfl) (by kernel_rfl)
      (by rw [MakeChecks.laidMetH_plain _ _ _ (by kernel_rfl)]; exact laidMet_laidAll _ (by kernel_rfl) (by kernel_rfl))) ?_
  intro W base args ds gs before hval0 hW hc hsz0 hL _
  have hsz : (DataW.weightsEach Tryz.prog (Tryz.f10.params.toList ++ Rows.spanKnownSpec.plain.varTypes Tryz.prog) (ds ++ gs)).all (· ≤ reachBytes) = true := hsz0
  have hval : ∀ (j : Nat) t v, Tryz.f10.params[j]? = some t → args[j]? = some v → Value.okWide Tryz.prog W .any base t v := hval0
  have hW' := hW
  obtain ⟨p, q, hA0, hV, rfl, hfz, hnd⟩ := hW
  have hA : DataW.TrodAll enc Tryz.prog W 0 (fun _ => true) true Tryz.f10.params.toList args.toList ds p := hA0
  rw [Tryz.params10] at hA hval hsz
  obtain ⟨v0, vs0, d0, ds0, p0, q0, hargs, rfl, rfl, h0, r0⟩ := trodAll_cons hA
  obtain ⟨rfl, rfl, rfl⟩ := trodAll_nil r0
  obtain rfl : args = #[v0] := by cases args; simp_all
  obtain ⟨rfl, rfl⟩ := trodVars_none hV
  obtain ⟨a0, rfl, rfl, rfl, w0⟩ := open_int Tryz.underlying3 (hval 0 3 v0 rfl rfl) h0
  clear hA0 hval0 hsz0 hsz
  have hst : ∀ y, (False) → y.spot = none ∧ ∃ v, W.cell? y = some v := by
    intro y hy
    cases hy
  have hL1 : laidMet Tryz.prog Rows.spanKnownRow.laid W := by rw [← MakeChecks.laidMetH_plain _ _ _ (by kernel_rfl)]; exact hL
  have hG := ground_of_laid hL1 (List.mem_cons_of_mem _ (List.mem_cons_of_mem _ List.mem_cons_self)) (by kernel_rfl) (g := 1) (t := 193) (n := 20) (e := 153) (by kernel_rfl) (by kernel_rfl) Tryz.underlying193 Tryz.underlying153 (by kernel_rfl) (by kernel_rfl)
  refine (law_calls (Go.Vx.Z.ok10) rfl (enters_of Tryz.func10 (by kernel_rfl) rfl) hG.1 hG.2 (S := fun y => False) hst (a0, ()) (Go.Vx.Z.pure_SpanKnown a0 w0) rfl (fun i => ?_)).mono fun e W' ⟨he, bel⟩ => ?_
  · match i with
    | 0 => exact rfl
    | i + 1 => trivial
  subst he
  exact ⟨_, rfl, _, _, _, [], _, [], hW', trodAll_mk1 (shut_bool Tryz.underlying4 _), (trodAll_cons_mk (shut_int Tryz.underlying3 w0) trodAll_mk0), rfl, bel.frame _, fun h => by cases h⟩
theorem holds : Rows.SpanKnownSaid :=
  OpenClaim.holds_of_wide 10 Tryz.f10 rfl rfl rfl rfl rfl rfl rfl ⟨rfl, rfl, rfl, rfl, rfl⟩ rfl rfl rfl rfl rfl (by kernel_rfl) Tryz.func10 (by kernel_rfl)
    (of_decide_eq_true (by kernel_rfl)) (by unfold Func.isWrapper; first | (rw [if_pos (by decide +kernel)]; kernel_rfl) | (rw [if_neg (by decide +kernel)]; exact ⟨rfl, rfl⟩))
    (fun os started H enc _ => lifted os started H enc)
theorem card_holds : Rows.SpanKnownCardSaid :=
  Claim7.holds_tied_plain_at .later [] [.data, .data, .data, .data, .pinned] true (true, "677dda388697c3be81f00c8f3e7162a91e326615aec89fc25f0adc6f7f408f5b") false holds (fun _ h => by cases h) (by kernel_rfl) (fun _ h => by cases h) spanKnown_row_tie rfl ⟨rfl, rfl⟩ (by kernel_rfl) rfl
    (fun f fn hf hfn => by
      obtain rfl : f = 10 := Option.some.inj ((show Tryz.prog.funcNamed "transhumance/transhumancelaw3.SpanKnown" = some 10 by kernel_rfl).symm.trans hf) |>.symm
      obtain rfl : fn = Tryz.f10 := (Option.some.inj (Tryz.func10.symm.trans hfn)).symm
      exact ⟨by kernel_rfl, fun j t ht => by
        rw [Tryz.params10] at ht
        have hm : t ∈ [3] := by simpa using Array.mem_of_getElem? ht
        have hall : ([3].all fun u => !Tryz.prog.wantsStandIn u) = true := by kernel_rfl
        exact (show Tryz.prog.wantsStandIn t = false by simpa using List.all_eq_true.1 hall t hm)⟩)
    (by kernel_rfl)
end spanKnown
end Go.Proofs.YtildhhdbikpbaaaGreatDoor
