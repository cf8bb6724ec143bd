/- WHAT THE PROGRAM's TABLE SAYS of the types that its functions use. -/
import Derived.Test.YtlmabhaenogbcaaSl
import Derived.Test.YtlmabhaenogbcaaBase
namespace Go.Proofs.Ytlmabhaenogbcaa
open Go.RowKit Go.Fp
instance : One Try.prog 3 := ⟨(mk_one (P := Try.prog) (by kernel_rfl) (by kernel_rfl)).out⟩
instance : One Try.prog 4 := ⟨(mk_one (P := Try.prog) (by kernel_rfl) (by kernel_rfl)).out⟩
instance : One Try.prog 5 := ⟨(mk_one (P := Try.prog) (by kernel_rfl) (by kernel_rfl)).out⟩
instance : One Try.prog 9 := ⟨(mk_one (P := Try.prog) (by kernel_rfl) (by kernel_rfl)).out⟩
instance : One Try.prog 22 := ⟨(mk_one (P := Try.prog) (by kernel_rfl) (by kernel_rfl)).out⟩
instance : One Try.prog 23 := ⟨(mk_one (P := Try.prog) (by kernel_rfl) (by kernel_rfl)).out⟩
instance : One Try.prog 25 := ⟨(mk_one (P := Try.prog) (by kernel_rfl) (by kernel_rfl)).out⟩
instance : One Try.prog 26 := ⟨(mk_one (P := Try.prog) (by kernel_rfl) (by kernel_rfl)).out⟩
instance : One Try.prog 29 := ⟨(mk_one (P := Try.prog) (by kernel_rfl) (by kernel_rfl)).out⟩
instance : One Try.prog 38 := ⟨(mk_one (P := Try.prog) (by kernel_rfl) (by kernel_rfl)).out⟩
instance : One Try.prog 50 := ⟨(mk_one (P := Try.prog) (by kernel_rfl) (by kernel_rfl)).out⟩
instance : One Try.prog 51 := ⟨(mk_one (P := Try.prog) (by kernel_rfl) (by kernel_rfl)).out⟩
instance : One Try.prog 63 := ⟨(mk_one (P := Try.prog) (by kernel_rfl) (by kernel_rfl)).out⟩
instance : One Try.prog 64 := ⟨(mk_one (P := Try.prog) (by kernel_rfl) (by kernel_rfl)).out⟩
instance : One Try.prog 71 := ⟨(mk_one (P := Try.prog) (by kernel_rfl) (by kernel_rfl)).out⟩
instance : One Try.prog 74 := ⟨(mk_one (P := Try.prog) (by kernel_rfl) (by kernel_rfl)).out⟩
instance : One Try.prog 81 := ⟨(mk_one (P := Try.prog) (by kernel_rfl) (by kernel_rfl)).out⟩
instance : One Try.prog 86 := ⟨(mk_one (P := Try.prog) (by kernel_rfl) (by kernel_rfl)).out⟩
instance : Row Try.prog 34 4 := ⟨(mk_row (P := Try.prog) (by kernel_rfl) (by kernel_rfl)).out⟩
instance : Row Try.prog 36 4 := ⟨(mk_row (P := Try.prog) (by kernel_rfl) (by kernel_rfl)).out⟩
instance : Row Try.prog 41 5 := ⟨(mk_row (P := Try.prog) (by kernel_rfl) (by kernel_rfl)).out⟩
instance : Row Try.prog 66 8 := ⟨(mk_row (P := Try.prog) (by kernel_rfl) (by kernel_rfl)).out⟩
instance : Row Try.prog 78 2 := ⟨(mk_row (P := Try.prog) (by kernel_rfl) (by kernel_rfl)).out⟩
instance : Row Try.prog 88 3 := ⟨(mk_row (P := Try.prog) (by kernel_rfl) (by kernel_rfl)).out⟩
instance : Row Try.prog 92 2 := ⟨(mk_row (P := Try.prog) (by kernel_rfl) (by kernel_rfl)).out⟩
instance : Row Try.prog 95 2 := ⟨(mk_row (P := Try.prog) (by kernel_rfl) (by kernel_rfl)).out⟩
instance : Zero Try.prog 3 [.int .i64 0] := mk_zero (by kernel_rfl)
instance : Zero Try.prog 4 [.bool false] := mk_zero (by kernel_rfl)
instance : Zero Try.prog 5 [.int .u8 0] := mk_zero (by kernel_rfl)
instance : Zero Try.prog 23 [.slice none 0 0] := mk_zero (by kernel_rfl)
instance : Zero Try.prog 34 [.int .u32 0, .int .i64 0, .int .i64 0, .slice none 0 0] := mk_zero (by kernel_rfl)
instance : Zero Try.prog 36 [.int .u32 0, .int .i64 0, .int .i64 0, .slice none 0 0] := mk_zero (by kernel_rfl)
instance : Zero Try.prog 41 [.bool false, .bool false, .int .u32 0, .int .i64 0, .slice none 0 0] := mk_zero (by kernel_rfl)
instance : Zero Try.prog 66 [.int .u32 0, .int .i64 0, .int .i64 0, .int .i64 0, .slice none 0 0, .slice none 0 0, .bool false, .bool false] := mk_zero (by kernel_rfl)
instance : Zero Try.prog 78 [.slice none 0 0, .bool false] := mk_zero (by kernel_rfl)
instance : Zero Try.prog 88 [.slice none 0 0, .int .i64 0, .int .i64 0] := mk_zero (by kernel_rfl)
instance : Zero Try.prog 92 [.slice none 0 0, .bool false] := mk_zero (by kernel_rfl)
instance : Zero Try.prog 95 [.slice none 0 0, .int .i64 0] := mk_zero (by kernel_rfl)
instance : Fld Try.prog 34 0 0 22 := mk_fld (n := 0) (by kernel_rfl)
instance : Fld Try.prog 34 1 1 3 := mk_fld (n := 0) (by kernel_rfl)
instance : Fld Try.prog 34 2 2 3 := mk_fld (n := 0) (by kernel_rfl)
instance : Fld Try.prog 34 3 3 23 := mk_fld (n := 0) (by kernel_rfl)
instance : Fld Try.prog 36 0 0 22 := mk_fld (n := 0) (by kernel_rfl)
instance : Fld Try.prog 36 1 1 3 := mk_fld (n := 0) (by kernel_rfl)
instance : Fld Try.prog 36 2 2 3 := mk_fld (n := 0) (by kernel_rfl)
instance : Fld Try.prog 36 3 3 23 := mk_fld (n := 0) (by kernel_rfl)
instance : Fld Try.prog 41 0 0 4 := mk_fld (n := 0) (by kernel_rfl)
instance : Fld Try.prog 41 1 1 4 := mk_fld (n := 0) (by kernel_rfl)
instance : Fld Try.prog 41 2 2 22 := mk_fld (n := 0) (by kernel_rfl)
instance : Fld Try.prog 41 3 3 3 := mk_fld (n := 0) (by kernel_rfl)
instance : Fld Try.prog 41 4 4 29 := mk_fld (n := 0) (by kernel_rfl)
instance : Fld Try.prog 66 0 0 22 := mk_fld (n := 0) (by kernel_rfl)
instance : Fld Try.prog 66 1 1 3 := mk_fld (n := 0) (by kernel_rfl)
instance : Fld Try.prog 66 2 2 3 := mk_fld (n := 0) (by kernel_rfl)
instance : Fld Try.prog 66 3 3 3 := mk_fld (n := 0) (by kernel_rfl)
instance : Fld Try.prog 66 4 4 63 := mk_fld (n := 0) (by kernel_rfl)
instance : Fld Try.prog 66 5 5 64 := mk_fld (n := 0) (by kernel_rfl)
instance : Fld Try.prog 66 6 6 4 := mk_fld (n := 0) (by kernel_rfl)
instance : Fld Try.prog 66 7 7 4 := mk_fld (n := 0) (by kernel_rfl)
instance : Fld Try.prog 78 0 0 23 := mk_fld (n := 0) (by kernel_rfl)
instance : Fld Try.prog 78 1 1 4 := mk_fld (n := 0) (by kernel_rfl)
instance : Fld Try.prog 88 0 0 23 := mk_fld (n := 0) (by kernel_rfl)
instance : Fld Try.prog 88 1 1 3 := mk_fld (n := 0) (by kernel_rfl)
instance : Fld Try.prog 88 2 2 3 := mk_fld (n := 0) (by kernel_rfl)
instance : Fld Try.prog 92 0 0 23 := mk_fld (n := 0) (by kernel_rfl)
instance : Fld Try.prog 92 1 1 4 := mk_fld (n := 0) (by kernel_rfl)
instance : Fld Try.prog 95 0 0 23 := mk_fld (n := 0) (by kernel_rfl)
instance : Fld Try.prog 95 1 1 26 := mk_fld (n := 0) (by kernel_rfl)
instance : Slc Try.prog 23 5 1 := ⟨Try.underlying23, by kernel_rfl⟩
instance : Slc Try.prog 25 36 4 := ⟨Try.underlying25, by kernel_rfl⟩
instance : Slc Try.prog 29 34 4 := ⟨Try.underlying29, by kernel_rfl⟩
instance : Slc Try.prog 50 3 1 := ⟨Try.underlying50, by kernel_rfl⟩
instance : Slc Try.prog 63 23 1 := ⟨Try.underlying63, by kernel_rfl⟩
instance : Slc Try.prog 64 4 1 := ⟨Try.underlying64, by kernel_rfl⟩
instance : Byt Try.prog 3 8 := ⟨by kernel_rfl⟩
instance : Byt Try.prog 4 1 := ⟨by kernel_rfl⟩
instance : Byt Try.prog 5 1 := ⟨by kernel_rfl⟩
instance : Byt Try.prog 23 24 := ⟨by kernel_rfl⟩
instance : Byt Try.prog 34 48 := ⟨by kernel_rfl⟩
instance : Byt Try.prog 36 48 := ⟨by kernel_rfl⟩
instance : Und Try.prog 3 (.int .i64) := ⟨Try.underlying3⟩
instance : Und Try.prog 4 (.bool) := ⟨Try.underlying4⟩
instance : Und Try.prog 5 (.int .u8) := ⟨Try.underlying5⟩
instance : Und Try.prog 9 (.string) := ⟨Try.underlying9⟩
instance : Und Try.prog 22 (.int .u32) := ⟨Try.underlying22⟩
instance : Und Try.prog 23 (.slice 5) := ⟨Try.underlying23⟩
instance : Und Try.prog 25 (.slice 36) := ⟨Try.underlying25⟩
instance : Und Try.prog 26 (.int .i64) := ⟨Try.underlying26⟩
instance : Und Try.prog 29 (.slice 34) := ⟨Try.underlying29⟩
instance : Und Try.prog 38 (.pointer 66) := ⟨Try.underlying38⟩
instance : Und Try.prog 50 (.slice 3) := ⟨Try.underlying50⟩
instance : Und Try.prog 51 (.int .u64) := ⟨Try.underlying51⟩
instance : Und Try.prog 63 (.slice 23) := ⟨Try.underlying63⟩
instance : Und Try.prog 64 (.slice 4) := ⟨Try.underlying64⟩
instance : Und Try.prog 71 (.pointer 92) := ⟨Try.underlying71⟩
instance : Und Try.prog 74 (.int .u64) := ⟨Try.underlying74⟩
instance : Und Try.prog 81 (.pointer 95) := ⟨Try.underlying81⟩
instance : Und Try.prog 86 (.pointer 88) := ⟨Try.underlying86⟩
instance : Plc Try.prog 34 [(0, 1), (1, 1), (2, 1), (3, 1)] := mk_plc (by kernel_rfl)
instance : Plc Try.prog 36 [(0, 1), (1, 1), (2, 1), (3, 1)] := mk_plc (by kernel_rfl)
instance : Plc Try.prog 41 [(0, 1), (1, 1), (2, 1), (3, 1), (4, 1)] := mk_plc (by kernel_rfl)
instance : Plc Try.prog 66 [(0, 1), (1, 1), (2, 1), (3, 1), (4, 1), (5, 1), (6, 1), (7, 1)] := mk_plc (by kernel_rfl)
instance : Plc Try.prog 78 [(0, 1), (1, 1)] := mk_plc (by kernel_rfl)
instance : Plc Try.prog 88 [(0, 1), (1, 1), (2, 1)] := mk_plc (by kernel_rfl)
instance : Plc Try.prog 92 [(0, 1), (1, 1)] := mk_plc (by kernel_rfl)
instance : Plc Try.prog 95 [(0, 1), (1, 1)] := mk_plc (by kernel_rfl)
instance : Clb Try.prog 8 := ⟨_, Try.func8, rfl, by kernel_rfl⟩
instance : Clb Try.prog 9 := ⟨_, Try.func9, rfl, by kernel_rfl⟩
instance : Clb Try.prog 10 := ⟨_, Try.func10, rfl, by kernel_rfl⟩
instance : Clb Try.prog 11 := ⟨_, Try.func11, rfl, by kernel_rfl⟩
instance : Clb Try.prog 12 := ⟨_, Try.func12, rfl, by kernel_rfl⟩
instance : Clb Try.prog 13 := ⟨_, Try.func13, rfl, by kernel_rfl⟩
instance : Clb Try.prog 14 := ⟨_, Try.func14, rfl, by kernel_rfl⟩
instance : Clb Try.prog 15 := ⟨_, Try.func15, rfl, by kernel_rfl⟩
instance : Clb Try.prog 16 := ⟨_, Try.func16, rfl, by kernel_rfl⟩
instance : Clb Try.prog 17 := ⟨_, Try.func17, rfl, by kernel_rfl⟩
instance : Clb Try.prog 18 := ⟨_, Try.func18, rfl, by kernel_rfl⟩
instance : Clb Try.prog 19 := ⟨_, Try.func19, rfl, by kernel_rfl⟩
instance : Clb Try.prog 20 := ⟨_, Try.func20, rfl, by kernel_rfl⟩
instance : Clb Try.prog 21 := ⟨_, Try.func21, rfl, by kernel_rfl⟩
instance : Clb Try.prog 22 := ⟨_, Try.func22, rfl, by kernel_rfl⟩
instance : Clb Try.prog 23 := ⟨_, Try.func23, rfl, by kernel_rfl⟩
instance : Clb Try.prog 24 := ⟨_, Try.func24, rfl, by kernel_rfl⟩
instance : Clb Try.prog 25 := ⟨_, Try.func25, rfl, by kernel_rfl⟩
instance : Clb Try.prog 26 := ⟨_, Try.func26, rfl, by kernel_rfl⟩
instance : Clb Try.prog 27 := ⟨_, Try.func27, rfl, by kernel_rfl⟩
instance : Clb Try.prog 28 := ⟨_, Try.func28, rfl, by kernel_rfl⟩
instance : Clb Try.prog 29 := ⟨_, Try.func29, rfl, by kernel_rfl⟩
instance : Clb Try.prog 30 := ⟨_, Try.func30, rfl, by kernel_rfl⟩
instance : Clb Try.prog 31 := ⟨_, Try.func31, rfl, by kernel_rfl⟩
instance : Clb Try.prog 32 := ⟨_, Try.func32, rfl, by kernel_rfl⟩
instance : Clb Try.prog 33 := ⟨_, Try.func33, rfl, by kernel_rfl⟩
instance : Clb Try.prog 34 := ⟨_, Try.func34, rfl, by kernel_rfl⟩
instance : Clb Try.prog 35 := ⟨_, Try.func35, rfl, by kernel_rfl⟩
instance : Clb Try.prog 36 := ⟨_, Try.func36, rfl, by kernel_rfl⟩
instance : Clb Try.prog 37 := ⟨_, Try.func37, rfl, by kernel_rfl⟩
instance : Clb Try.prog 38 := ⟨_, Try.func38, rfl, by kernel_rfl⟩
instance : Clb Try.prog 39 := ⟨_, Try.func39, rfl, by kernel_rfl⟩
instance : Clb Try.prog 40 := ⟨_, Try.func40, rfl, by kernel_rfl⟩
instance : Clb Try.prog 41 := ⟨_, Try.func41, rfl, by kernel_rfl⟩
instance : Clb Try.prog 42 := ⟨_, Try.func42, rfl, by kernel_rfl⟩
instance : Clb Try.prog 43 := ⟨_, Try.func43, rfl, by kernel_rfl⟩
instance : Clb Try.prog 44 := ⟨_, Try.func44, rfl, by kernel_rfl⟩
instance : Clb Try.prog 45 := ⟨_, Try.func45, rfl, by kernel_rfl⟩
instance : Clb Try.prog 46 := ⟨_, Try.func46, rfl, by kernel_rfl⟩
instance : Clb Try.prog 47 := ⟨_, Try.func47, rfl, by kernel_rfl⟩
instance : Clb Try.prog 48 := ⟨_, Try.func48, rfl, by kernel_rfl⟩
instance : Clb Try.prog 49 := ⟨_, Try.func49, rfl, by kernel_rfl⟩
instance : Clb Try.prog 50 := ⟨_, Try.func50, rfl, by kernel_rfl⟩
instance : Clb Try.prog 51 := ⟨_, Try.func51, rfl, by kernel_rfl⟩
instance : Clb Try.prog 52 := ⟨_, Try.func52, rfl, by kernel_rfl⟩
end Go.Proofs.Ytlmabhaenogbcaa
