/- WHAT THE PROGRAM's TABLE SAYS of the types that its functions use. -/
import Derived.Test.YthinfgblapfekaaSl
import Derived.Test.YthinfgblapfekaaBase
namespace Go.Proofs.Ythinfgblapfekaa
open Go.RowKit Go.Fp
instance : One Try.prog 3 := ⟨(mk_one (P := Try.prog) (by kernel_rfl) (by kernel_rfl)).out⟩
instance : One Try.prog 4 := ⟨(mk_one (P := Try.prog) (by kernel_rfl) (by kernel_rfl)).out⟩
instance : One Try.prog 5 := ⟨(mk_one (P := Try.prog) (by kernel_rfl) (by kernel_rfl)).out⟩
instance : One Try.prog 9 := ⟨(mk_one (P := Try.prog) (by kernel_rfl) (by kernel_rfl)).out⟩
instance : One Try.prog 22 := ⟨(mk_one (P := Try.prog) (by kernel_rfl) (by kernel_rfl)).out⟩
instance : One Try.prog 25 := ⟨(mk_one (P := Try.prog) (by kernel_rfl) (by kernel_rfl)).out⟩
instance : One Try.prog 26 := ⟨(mk_one (P := Try.prog) (by kernel_rfl) (by kernel_rfl)).out⟩
instance : One Try.prog 31 := ⟨(mk_one (P := Try.prog) (by kernel_rfl) (by kernel_rfl)).out⟩
instance : One Try.prog 36 := ⟨(mk_one (P := Try.prog) (by kernel_rfl) (by kernel_rfl)).out⟩
instance : One Try.prog 38 := ⟨(mk_one (P := Try.prog) (by kernel_rfl) (by kernel_rfl)).out⟩
instance : One Try.prog 41 := ⟨(mk_one (P := Try.prog) (by kernel_rfl) (by kernel_rfl)).out⟩
instance : One Try.prog 43 := ⟨(mk_one (P := Try.prog) (by kernel_rfl) (by kernel_rfl)).out⟩
instance : One Try.prog 51 := ⟨(mk_one (P := Try.prog) (by kernel_rfl) (by kernel_rfl)).out⟩
instance : One Try.prog 55 := ⟨(mk_one (P := Try.prog) (by kernel_rfl) (by kernel_rfl)).out⟩
instance : Row Try.prog 28 2 := ⟨(mk_row (P := Try.prog) (by kernel_rfl) (by kernel_rfl)).out⟩
instance : Row Try.prog 40 3 := ⟨(mk_row (P := Try.prog) (by kernel_rfl) (by kernel_rfl)).out⟩
instance : Row Try.prog 42 16 := ⟨(mk_row (P := Try.prog) (by kernel_rfl) (by kernel_rfl)).out⟩
instance : Row Try.prog 45 21 := ⟨(mk_row (P := Try.prog) (by kernel_rfl) (by kernel_rfl)).out⟩
instance : Row Try.prog 53 16 := ⟨(mk_row (P := Try.prog) (by kernel_rfl) (by kernel_rfl)).out⟩
instance : Row Try.prog 72 2 := ⟨(mk_row (P := Try.prog) (by kernel_rfl) (by kernel_rfl)).out⟩
instance : Row Try.prog 74 2 := ⟨(mk_row (P := Try.prog) (by kernel_rfl) (by kernel_rfl)).out⟩
instance : Zero Try.prog 5 [.int .u8 0] := mk_zero (by kernel_rfl)
instance : Zero Try.prog 28 [.slice none 0 0, .bool false] := mk_zero (by kernel_rfl)
instance : Zero Try.prog 40 [.slice none 0 0, .int .i64 0, .int .i64 0] := mk_zero (by kernel_rfl)
instance : Zero Try.prog 42 [.int .u8 0, .int .u8 0, .int .u8 0, .int .u8 0, .int .u8 0, .int .u8 0, .int .u8 0, .int .u8 0, .int .u8 0, .int .u8 0, .int .u8 0, .int .u8 0, .int .u8 0, .int .u8 0, .int .u8 0, .int .u8 0] := mk_zero (by kernel_rfl)
instance : Zero Try.prog 45 [.int .i64 0, .int .u64 0, .int .u8 0, .int .u8 0, .int .u8 0, .int .u8 0, .int .u8 0, .int .u8 0, .int .u8 0, .int .u8 0, .int .u8 0, .int .u8 0, .int .u8 0, .int .u8 0, .int .u8 0, .int .u8 0, .int .u8 0, .int .u8 0, .slice none 0 0, .slice none 0 0, .int .i64 0] := mk_zero (by kernel_rfl)
instance : Zero Try.prog 53 [.int .u8 0, .int .u8 0, .int .u8 0, .int .u8 0, .int .u8 0, .int .u8 0, .int .u8 0, .int .u8 0, .int .u8 0, .int .u8 0, .int .u8 0, .int .u8 0, .int .u8 0, .int .u8 0, .int .u8 0, .int .u8 0] := mk_zero (by kernel_rfl)
instance : Zero Try.prog 72 [.slice none 0 0, .bool false] := mk_zero (by kernel_rfl)
instance : Zero Try.prog 74 [.slice none 0 0, .int .i64 0] := mk_zero (by kernel_rfl)
instance : Fld Try.prog 28 0 0 26 := mk_fld (n := 0) (by kernel_rfl)
instance : Fld Try.prog 28 1 1 4 := mk_fld (n := 0) (by kernel_rfl)
instance : Fld Try.prog 40 0 0 26 := mk_fld (n := 0) (by kernel_rfl)
instance : Fld Try.prog 40 1 1 3 := mk_fld (n := 0) (by kernel_rfl)
instance : Fld Try.prog 40 2 2 3 := mk_fld (n := 0) (by kernel_rfl)
instance : Fld Try.prog 45 0 0 3 := mk_fld (n := 0) (by kernel_rfl)
instance : Fld Try.prog 45 1 1 41 := mk_fld (n := 0) (by kernel_rfl)
instance : Fld Try.prog 45 2 2 42 := mk_fld (n := 15) (by kernel_rfl)
instance : Fld Try.prog 45 3 18 43 := mk_fld (n := 0) (by kernel_rfl)
instance : Fld Try.prog 45 4 19 26 := mk_fld (n := 0) (by kernel_rfl)
instance : Fld Try.prog 45 5 20 3 := mk_fld (n := 0) (by kernel_rfl)
instance : Fld Try.prog 72 0 0 26 := mk_fld (n := 0) (by kernel_rfl)
instance : Fld Try.prog 72 1 1 4 := mk_fld (n := 0) (by kernel_rfl)
instance : Fld Try.prog 74 0 0 26 := mk_fld (n := 0) (by kernel_rfl)
instance : Fld Try.prog 74 1 1 31 := mk_fld (n := 0) (by kernel_rfl)
instance : Slc Try.prog 22 45 21 := ⟨Try.underlying22, by kernel_rfl⟩
instance : Slc Try.prog 26 5 1 := ⟨Try.underlying26, by kernel_rfl⟩
instance : Slc Try.prog 43 42 16 := ⟨Try.underlying43, by kernel_rfl⟩
instance : Slc Try.prog 55 53 16 := ⟨Try.underlying55, by kernel_rfl⟩
instance : Byt Try.prog 5 1 := ⟨by kernel_rfl⟩
instance : Byt Try.prog 42 16 := ⟨by kernel_rfl⟩
instance : Byt Try.prog 45 88 := ⟨by kernel_rfl⟩
instance : Byt Try.prog 53 16 := ⟨by kernel_rfl⟩
instance : Arr Try.prog 42 5 16 1 := ⟨Try.underlying42, by kernel_rfl⟩
instance : Arr Try.prog 53 5 16 1 := ⟨Try.underlying53, by kernel_rfl⟩
instance : Und Try.prog 3 (.int .i64) := ⟨Try.underlying3⟩
instance : Und Try.prog 4 (.bool) := ⟨Try.underlying4⟩
instance : Und Try.prog 5 (.int .u8) := ⟨Try.underlying5⟩
instance : Und Try.prog 9 (.string) := ⟨Try.underlying9⟩
instance : Und Try.prog 22 (.slice 45) := ⟨Try.underlying22⟩
instance : Und Try.prog 25 (.pointer 72) := ⟨Try.underlying25⟩
instance : Und Try.prog 26 (.slice 5) := ⟨Try.underlying26⟩
instance : Und Try.prog 31 (.int .i64) := ⟨Try.underlying31⟩
instance : Und Try.prog 36 (.pointer 74) := ⟨Try.underlying36⟩
instance : Und Try.prog 38 (.pointer 40) := ⟨Try.underlying38⟩
instance : Und Try.prog 41 (.int .u64) := ⟨Try.underlying41⟩
instance : Und Try.prog 42 (.array 16 5) := ⟨Try.underlying42⟩
instance : Und Try.prog 43 (.slice 42) := ⟨Try.underlying43⟩
instance : Und Try.prog 51 (.int .u64) := ⟨Try.underlying51⟩
instance : Und Try.prog 53 (.array 16 5) := ⟨Try.underlying53⟩
instance : Und Try.prog 55 (.slice 53) := ⟨Try.underlying55⟩
instance : Plc Try.prog 28 [(0, 1), (1, 1)] := mk_plc (by kernel_rfl)
instance : Plc Try.prog 40 [(0, 1), (1, 1), (2, 1)] := mk_plc (by kernel_rfl)
instance : Plc Try.prog 53 [(0, 1), (1, 1), (2, 1), (3, 1), (4, 1), (5, 1), (6, 1), (7, 1), (8, 1), (9, 1), (10, 1), (11, 1), (12, 1), (13, 1), (14, 1), (15, 1)] := mk_plca Try.underlying53 (by kernel_rfl : _ = some 1) rfl
instance : Plc Try.prog 72 [(0, 1), (1, 1)] := mk_plc (by kernel_rfl)
instance : Plc Try.prog 74 [(0, 1), (1, 1)] := mk_plc (by kernel_rfl)
instance : Clb Try.prog 8 := ⟨_, Try.func8, rfl, by kernel_rfl⟩
instance : Clb Try.prog 9 := ⟨_, Try.func9, rfl, by kernel_rfl⟩
instance : Clb Try.prog 10 := ⟨_, Try.func10, rfl, by kernel_rfl⟩
instance : Clb Try.prog 11 := ⟨_, Try.func11, rfl, by kernel_rfl⟩
instance : Clb Try.prog 12 := ⟨_, Try.func12, rfl, by kernel_rfl⟩
instance : Clb Try.prog 13 := ⟨_, Try.func13, rfl, by kernel_rfl⟩
instance : Clb Try.prog 14 := ⟨_, Try.func14, rfl, by kernel_rfl⟩
instance : Clb Try.prog 15 := ⟨_, Try.func15, rfl, by kernel_rfl⟩
instance : Clb Try.prog 16 := ⟨_, Try.func16, rfl, by kernel_rfl⟩
instance : Clb Try.prog 17 := ⟨_, Try.func17, rfl, by kernel_rfl⟩
instance : Clb Try.prog 18 := ⟨_, Try.func18, rfl, by kernel_rfl⟩
instance : Clb Try.prog 19 := ⟨_, Try.func19, rfl, by kernel_rfl⟩
instance : Clb Try.prog 20 := ⟨_, Try.func20, rfl, by kernel_rfl⟩
instance : Clb Try.prog 21 := ⟨_, Try.func21, rfl, by kernel_rfl⟩
instance : Clb Try.prog 22 := ⟨_, Try.func22, rfl, by kernel_rfl⟩
instance : Clb Try.prog 23 := ⟨_, Try.func23, rfl, by kernel_rfl⟩
instance : Clb Try.prog 24 := ⟨_, Try.func24, rfl, by kernel_rfl⟩
instance : Clb Try.prog 25 := ⟨_, Try.func25, rfl, by kernel_rfl⟩
instance : Clb Try.prog 26 := ⟨_, Try.func26, rfl, by kernel_rfl⟩
instance : Clb Try.prog 27 := ⟨_, Try.func27, rfl, by kernel_rfl⟩
instance : Clb Try.prog 28 := ⟨_, Try.func28, rfl, by kernel_rfl⟩
instance : Clb Try.prog 29 := ⟨_, Try.func29, rfl, by kernel_rfl⟩
instance : Clb Try.prog 30 := ⟨_, Try.func30, rfl, by kernel_rfl⟩
instance : Clb Try.prog 31 := ⟨_, Try.func31, rfl, by kernel_rfl⟩
instance : Clb Try.prog 32 := ⟨_, Try.func32, rfl, by kernel_rfl⟩
instance : Clb Try.prog 33 := ⟨_, Try.func33, rfl, by kernel_rfl⟩
instance : Clb Try.prog 34 := ⟨_, Try.func34, rfl, by kernel_rfl⟩
instance : Clb Try.prog 35 := ⟨_, Try.func35, rfl, by kernel_rfl⟩
instance : Clb Try.prog 36 := ⟨_, Try.func36, rfl, by kernel_rfl⟩
instance : Clb Try.prog 37 := ⟨_, Try.func37, rfl, by kernel_rfl⟩
instance : Clb Try.prog 38 := ⟨_, Try.func38, rfl, by kernel_rfl⟩
instance : Clb Try.prog 39 := ⟨_, Try.func39, rfl, by kernel_rfl⟩
instance : Clb Try.prog 40 := ⟨_, Try.func40, rfl, by kernel_rfl⟩
instance : Clb Try.prog 41 := ⟨_, Try.func41, rfl, by kernel_rfl⟩
instance : Clb Try.prog 42 := ⟨_, Try.func42, rfl, by kernel_rfl⟩
instance : Clb Try.prog 43 := ⟨_, Try.func43, rfl, by kernel_rfl⟩
instance : Clb Try.prog 44 := ⟨_, Try.func44, rfl, by kernel_rfl⟩
instance : Clb Try.prog 45 := ⟨_, Try.func45, rfl, by kernel_rfl⟩
instance : Clb Try.prog 46 := ⟨_, Try.func46, rfl, by kernel_rfl⟩
instance : Clb Try.prog 47 := ⟨_, Try.func47, rfl, by kernel_rfl⟩
instance : Clb Try.prog 48 := ⟨_, Try.func48, rfl, by kernel_rfl⟩
instance : Clb Try.prog 49 := ⟨_, Try.func49, rfl, by kernel_rfl⟩
instance : Clb Try.prog 50 := ⟨_, Try.func50, rfl, by kernel_rfl⟩
end Go.Proofs.Ythinfgblapfekaa
