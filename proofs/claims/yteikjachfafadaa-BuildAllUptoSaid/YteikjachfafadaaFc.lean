/- WHAT THE PROGRAM's TABLE SAYS of the types that its functions use. -/
import Derived.Test.YteikjachfafadaaSl
import Derived.Test.YteikjachfafadaaBase
namespace Go.Proofs.Yteikjachfafadaa
open Go.RowKit Go.Fp
instance : One Try.prog 3 := ⟨(mk_one (P := Try.prog) (by kernel_rfl) (by kernel_rfl)).out⟩
instance : One Try.prog 4 := ⟨(mk_one (P := Try.prog) (by kernel_rfl) (by kernel_rfl)).out⟩
instance : One Try.prog 5 := ⟨(mk_one (P := Try.prog) (by kernel_rfl) (by kernel_rfl)).out⟩
instance : One Try.prog 9 := ⟨(mk_one (P := Try.prog) (by kernel_rfl) (by kernel_rfl)).out⟩
instance : One Try.prog 22 := ⟨(mk_one (P := Try.prog) (by kernel_rfl) (by kernel_rfl)).out⟩
instance : One Try.prog 23 := ⟨(mk_one (P := Try.prog) (by kernel_rfl) (by kernel_rfl)).out⟩
instance : One Try.prog 25 := ⟨(mk_one (P := Try.prog) (by kernel_rfl) (by kernel_rfl)).out⟩
instance : One Try.prog 26 := ⟨(mk_one (P := Try.prog) (by kernel_rfl) (by kernel_rfl)).out⟩
instance : One Try.prog 29 := ⟨(mk_one (P := Try.prog) (by kernel_rfl) (by kernel_rfl)).out⟩
instance : One Try.prog 40 := ⟨(mk_one (P := Try.prog) (by kernel_rfl) (by kernel_rfl)).out⟩
instance : One Try.prog 44 := ⟨(mk_one (P := Try.prog) (by kernel_rfl) (by kernel_rfl)).out⟩
instance : One Try.prog 50 := ⟨(mk_one (P := Try.prog) (by kernel_rfl) (by kernel_rfl)).out⟩
instance : One Try.prog 52 := ⟨(mk_one (P := Try.prog) (by kernel_rfl) (by kernel_rfl)).out⟩
instance : One Try.prog 66 := ⟨(mk_one (P := Try.prog) (by kernel_rfl) (by kernel_rfl)).out⟩
instance : One Try.prog 72 := ⟨(mk_one (P := Try.prog) (by kernel_rfl) (by kernel_rfl)).out⟩
instance : One Try.prog 82 := ⟨(mk_one (P := Try.prog) (by kernel_rfl) (by kernel_rfl)).out⟩
instance : One Try.prog 89 := ⟨(mk_one (P := Try.prog) (by kernel_rfl) (by kernel_rfl)).out⟩
instance : One Try.prog 91 := ⟨(mk_one (P := Try.prog) (by kernel_rfl) (by kernel_rfl)).out⟩
instance : One Try.prog 97 := ⟨(mk_one (P := Try.prog) (by kernel_rfl) (by kernel_rfl)).out⟩
instance : Row Try.prog 33 2 := ⟨(mk_row (P := Try.prog) (by kernel_rfl) (by kernel_rfl)).out⟩
instance : Row Try.prog 34 2 := ⟨(mk_row (P := Try.prog) (by kernel_rfl) (by kernel_rfl)).out⟩
instance : Row Try.prog 42 3 := ⟨(mk_row (P := Try.prog) (by kernel_rfl) (by kernel_rfl)).out⟩
instance : Row Try.prog 43 16 := ⟨(mk_row (P := Try.prog) (by kernel_rfl) (by kernel_rfl)).out⟩
instance : Row Try.prog 46 18 := ⟨(mk_row (P := Try.prog) (by kernel_rfl) (by kernel_rfl)).out⟩
instance : Row Try.prog 48 22 := ⟨(mk_row (P := Try.prog) (by kernel_rfl) (by kernel_rfl)).out⟩
instance : Row Try.prog 59 2 := ⟨(mk_row (P := Try.prog) (by kernel_rfl) (by kernel_rfl)).out⟩
instance : Row Try.prog 63 2 := ⟨(mk_row (P := Try.prog) (by kernel_rfl) (by kernel_rfl)).out⟩
instance : Row Try.prog 70 4 := ⟨(mk_row (P := Try.prog) (by kernel_rfl) (by kernel_rfl)).out⟩
instance : Row Try.prog 77 4 := ⟨(mk_row (P := Try.prog) (by kernel_rfl) (by kernel_rfl)).out⟩
instance : Row Try.prog 79 3 := ⟨(mk_row (P := Try.prog) (by kernel_rfl) (by kernel_rfl)).out⟩
instance : Row Try.prog 81 16 := ⟨(mk_row (P := Try.prog) (by kernel_rfl) (by kernel_rfl)).out⟩
instance : Row Try.prog 84 18 := ⟨(mk_row (P := Try.prog) (by kernel_rfl) (by kernel_rfl)).out⟩
instance : Row Try.prog 87 22 := ⟨(mk_row (P := Try.prog) (by kernel_rfl) (by kernel_rfl)).out⟩
instance : Row Try.prog 111 2 := ⟨(mk_row (P := Try.prog) (by kernel_rfl) (by kernel_rfl)).out⟩
instance : Row Try.prog 118 2 := ⟨(mk_row (P := Try.prog) (by kernel_rfl) (by kernel_rfl)).out⟩
instance : Row Try.prog 121 2 := ⟨(mk_row (P := Try.prog) (by kernel_rfl) (by kernel_rfl)).out⟩
instance : Zero Try.prog 5 [.int .u8 0] := mk_zero (by kernel_rfl)
instance : Zero Try.prog 23 [.slice none 0 0] := mk_zero (by kernel_rfl)
instance : Zero Try.prog 33 [.int .i64 0, .slice none 0 0] := mk_zero (by kernel_rfl)
instance : Zero Try.prog 34 [.int .i64 0, .slice none 0 0] := mk_zero (by kernel_rfl)
instance : Zero Try.prog 42 [.int .u32 0, .int .u32 0, .int .i64 0] := mk_zero (by kernel_rfl)
instance : Zero Try.prog 43 [.int .u8 0, .int .u8 0, .int .u8 0, .int .u8 0, .int .u8 0, .int .u8 0, .int .u8 0, .int .u8 0, .int .u8 0, .int .u8 0, .int .u8 0, .int .u8 0, .int .u8 0, .int .u8 0, .int .u8 0, .int .u8 0] := mk_zero (by kernel_rfl)
instance : Zero Try.prog 46 [.int .u8 0, .int .u8 0, .int .u8 0, .int .u8 0, .int .u8 0, .int .u8 0, .int .u8 0, .int .u8 0, .int .u8 0, .int .u8 0, .int .u8 0, .int .u8 0, .int .u8 0, .int .u8 0, .int .u8 0, .int .u8 0, .slice none 0 0, .slice none 0 0] := mk_zero (by kernel_rfl)
instance : Zero Try.prog 48 [.int .i64 0, .int .u32 0, .int .u32 0, .int .i64 0, .int .u8 0, .int .u8 0, .int .u8 0, .int .u8 0, .int .u8 0, .int .u8 0, .int .u8 0, .int .u8 0, .int .u8 0, .int .u8 0, .int .u8 0, .int .u8 0, .int .u8 0, .int .u8 0, .int .u8 0, .int .u8 0, .slice none 0 0, .slice none 0 0] := mk_zero (by kernel_rfl)
instance : Zero Try.prog 59 [.bool false, .slice none 0 0] := mk_zero (by kernel_rfl)
instance : Zero Try.prog 63 [.bool false, .slice none 0 0] := mk_zero (by kernel_rfl)
instance : Zero Try.prog 70 [.int .u32 0, .int .i64 0, .int .i64 0, .slice none 0 0] := mk_zero (by kernel_rfl)
instance : Zero Try.prog 77 [.int .u32 0, .int .i64 0, .int .i64 0, .slice none 0 0] := mk_zero (by kernel_rfl)
instance : Zero Try.prog 79 [.int .u32 0, .int .u32 0, .int .i64 0] := mk_zero (by kernel_rfl)
instance : Zero Try.prog 81 [.int .u8 0, .int .u8 0, .int .u8 0, .int .u8 0, .int .u8 0, .int .u8 0, .int .u8 0, .int .u8 0, .int .u8 0, .int .u8 0, .int .u8 0, .int .u8 0, .int .u8 0, .int .u8 0, .int .u8 0, .int .u8 0] := mk_zero (by kernel_rfl)
instance : Zero Try.prog 84 [.int .u8 0, .int .u8 0, .int .u8 0, .int .u8 0, .int .u8 0, .int .u8 0, .int .u8 0, .int .u8 0, .int .u8 0, .int .u8 0, .int .u8 0, .int .u8 0, .int .u8 0, .int .u8 0, .int .u8 0, .int .u8 0, .slice none 0 0, .slice none 0 0] := mk_zero (by kernel_rfl)
instance : Zero Try.prog 87 [.int .i64 0, .int .u32 0, .int .u32 0, .int .i64 0, .int .u8 0, .int .u8 0, .int .u8 0, .int .u8 0, .int .u8 0, .int .u8 0, .int .u8 0, .int .u8 0, .int .u8 0, .int .u8 0, .int .u8 0, .int .u8 0, .int .u8 0, .int .u8 0, .int .u8 0, .int .u8 0, .slice none 0 0, .slice none 0 0] := mk_zero (by kernel_rfl)
instance : Zero Try.prog 111 [.slice none 0 0, .bool false] := mk_zero (by kernel_rfl)
instance : Zero Try.prog 118 [.slice none 0 0, .bool false] := mk_zero (by kernel_rfl)
instance : Zero Try.prog 121 [.slice none 0 0, .int .i64 0] := mk_zero (by kernel_rfl)
instance : Fld Try.prog 33 0 0 3 := mk_fld (n := 0) (by kernel_rfl)
instance : Fld Try.prog 33 1 1 23 := mk_fld (n := 0) (by kernel_rfl)
instance : Fld Try.prog 34 0 0 3 := mk_fld (n := 0) (by kernel_rfl)
instance : Fld Try.prog 34 1 1 23 := mk_fld (n := 0) (by kernel_rfl)
instance : Fld Try.prog 42 0 0 22 := mk_fld (n := 0) (by kernel_rfl)
instance : Fld Try.prog 42 1 1 22 := mk_fld (n := 0) (by kernel_rfl)
instance : Fld Try.prog 42 2 2 3 := mk_fld (n := 0) (by kernel_rfl)
instance : Fld Try.prog 46 0 0 43 := mk_fld (n := 15) (by kernel_rfl)
instance : Fld Try.prog 46 1 16 44 := mk_fld (n := 0) (by kernel_rfl)
instance : Fld Try.prog 46 2 17 44 := mk_fld (n := 0) (by kernel_rfl)
instance : Fld Try.prog 48 0 0 3 := mk_fld (n := 0) (by kernel_rfl)
instance : Fld Try.prog 48 1 1 42 := mk_fld (n := 2) (by kernel_rfl)
instance : Fld Try.prog 48 2 4 46 := mk_fld (n := 17) (by kernel_rfl)
instance : Fld Try.prog 59 0 0 4 := mk_fld (n := 0) (by kernel_rfl)
instance : Fld Try.prog 59 1 1 52 := mk_fld (n := 0) (by kernel_rfl)
instance : Fld Try.prog 63 0 0 4 := mk_fld (n := 0) (by kernel_rfl)
instance : Fld Try.prog 63 1 1 40 := mk_fld (n := 0) (by kernel_rfl)
instance : Fld Try.prog 70 0 0 22 := mk_fld (n := 0) (by kernel_rfl)
instance : Fld Try.prog 70 1 1 3 := mk_fld (n := 0) (by kernel_rfl)
instance : Fld Try.prog 70 2 2 3 := mk_fld (n := 0) (by kernel_rfl)
instance : Fld Try.prog 70 3 3 23 := mk_fld (n := 0) (by kernel_rfl)
instance : Fld Try.prog 77 0 0 22 := mk_fld (n := 0) (by kernel_rfl)
instance : Fld Try.prog 77 1 1 3 := mk_fld (n := 0) (by kernel_rfl)
instance : Fld Try.prog 77 2 2 3 := mk_fld (n := 0) (by kernel_rfl)
instance : Fld Try.prog 77 3 3 23 := mk_fld (n := 0) (by kernel_rfl)
instance : Fld Try.prog 79 0 0 22 := mk_fld (n := 0) (by kernel_rfl)
instance : Fld Try.prog 79 1 1 22 := mk_fld (n := 0) (by kernel_rfl)
instance : Fld Try.prog 79 2 2 3 := mk_fld (n := 0) (by kernel_rfl)
instance : Fld Try.prog 84 0 0 81 := mk_fld (n := 15) (by kernel_rfl)
instance : Fld Try.prog 84 1 16 82 := mk_fld (n := 0) (by kernel_rfl)
instance : Fld Try.prog 84 2 17 82 := mk_fld (n := 0) (by kernel_rfl)
instance : Fld Try.prog 87 0 0 3 := mk_fld (n := 0) (by kernel_rfl)
instance : Fld Try.prog 87 1 1 79 := mk_fld (n := 2) (by kernel_rfl)
instance : Fld Try.prog 87 2 4 84 := mk_fld (n := 17) (by kernel_rfl)
instance : Fld Try.prog 111 0 0 23 := mk_fld (n := 0) (by kernel_rfl)
instance : Fld Try.prog 111 1 1 4 := mk_fld (n := 0) (by kernel_rfl)
instance : Fld Try.prog 118 0 0 23 := mk_fld (n := 0) (by kernel_rfl)
instance : Fld Try.prog 118 1 1 4 := mk_fld (n := 0) (by kernel_rfl)
instance : Fld Try.prog 121 0 0 23 := mk_fld (n := 0) (by kernel_rfl)
instance : Fld Try.prog 121 1 1 26 := mk_fld (n := 0) (by kernel_rfl)
instance : Slc Try.prog 23 5 1 := ⟨Try.underlying23, by kernel_rfl⟩
instance : Slc Try.prog 25 33 2 := ⟨Try.underlying25, by kernel_rfl⟩
instance : Slc Try.prog 29 34 2 := ⟨Try.underlying29, by kernel_rfl⟩
instance : Slc Try.prog 40 48 22 := ⟨Try.underlying40, by kernel_rfl⟩
instance : Slc Try.prog 44 43 16 := ⟨Try.underlying44, by kernel_rfl⟩
instance : Slc Try.prog 50 23 1 := ⟨Try.underlying50, by kernel_rfl⟩
instance : Slc Try.prog 52 87 22 := ⟨Try.underlying52, by kernel_rfl⟩
instance : Slc Try.prog 66 70 4 := ⟨Try.underlying66, by kernel_rfl⟩
instance : Slc Try.prog 72 77 4 := ⟨Try.underlying72, by kernel_rfl⟩
instance : Slc Try.prog 82 81 16 := ⟨Try.underlying82, by kernel_rfl⟩
instance : Byt Try.prog 5 1 := ⟨by kernel_rfl⟩
instance : Byt Try.prog 23 24 := ⟨by kernel_rfl⟩
instance : Byt Try.prog 33 32 := ⟨by kernel_rfl⟩
instance : Byt Try.prog 34 32 := ⟨by kernel_rfl⟩
instance : Byt Try.prog 43 16 := ⟨by kernel_rfl⟩
instance : Byt Try.prog 48 88 := ⟨by kernel_rfl⟩
instance : Byt Try.prog 70 48 := ⟨by kernel_rfl⟩
instance : Byt Try.prog 77 48 := ⟨by kernel_rfl⟩
instance : Byt Try.prog 81 16 := ⟨by kernel_rfl⟩
instance : Byt Try.prog 87 88 := ⟨by kernel_rfl⟩
instance : Arr Try.prog 43 5 16 1 := ⟨Try.underlying43, by kernel_rfl⟩
instance : Arr Try.prog 81 5 16 1 := ⟨Try.underlying81, by kernel_rfl⟩
instance : Und Try.prog 3 (.int .i64) := ⟨Try.underlying3⟩
instance : Und Try.prog 4 (.bool) := ⟨Try.underlying4⟩
instance : Und Try.prog 5 (.int .u8) := ⟨Try.underlying5⟩
instance : Und Try.prog 9 (.string) := ⟨Try.underlying9⟩
instance : Und Try.prog 22 (.int .u32) := ⟨Try.underlying22⟩
instance : Und Try.prog 23 (.slice 5) := ⟨Try.underlying23⟩
instance : Und Try.prog 25 (.slice 33) := ⟨Try.underlying25⟩
instance : Und Try.prog 26 (.int .i64) := ⟨Try.underlying26⟩
instance : Und Try.prog 29 (.slice 34) := ⟨Try.underlying29⟩
instance : Und Try.prog 40 (.slice 48) := ⟨Try.underlying40⟩
instance : Und Try.prog 43 (.array 16 5) := ⟨Try.underlying43⟩
instance : Und Try.prog 44 (.slice 43) := ⟨Try.underlying44⟩
instance : Und Try.prog 50 (.slice 23) := ⟨Try.underlying50⟩
instance : Und Try.prog 52 (.slice 87) := ⟨Try.underlying52⟩
instance : Und Try.prog 66 (.slice 70) := ⟨Try.underlying66⟩
instance : Und Try.prog 72 (.slice 77) := ⟨Try.underlying72⟩
instance : Und Try.prog 81 (.array 16 5) := ⟨Try.underlying81⟩
instance : Und Try.prog 82 (.slice 81) := ⟨Try.underlying82⟩
instance : Und Try.prog 89 (.pointer 118) := ⟨Try.underlying89⟩
instance : Und Try.prog 91 (.int .u64) := ⟨Try.underlying91⟩
instance : Und Try.prog 97 (.pointer 121) := ⟨Try.underlying97⟩
instance : Plc Try.prog 33 [(0, 1), (1, 1)] := mk_plc (by kernel_rfl)
instance : Plc Try.prog 34 [(0, 1), (1, 1)] := mk_plc (by kernel_rfl)
instance : Plc Try.prog 42 [(0, 1), (1, 1), (2, 1)] := mk_plc (by kernel_rfl)
instance : Plc Try.prog 46 [(0, 16), (16, 1), (17, 1)] := mk_plc (by kernel_rfl)
instance : Plc Try.prog 48 [(0, 1), (1, 3), (4, 18)] := mk_plc (by kernel_rfl)
instance : Plc Try.prog 59 [(0, 1), (1, 1)] := mk_plc (by kernel_rfl)
instance : Plc Try.prog 63 [(0, 1), (1, 1)] := mk_plc (by kernel_rfl)
instance : Plc Try.prog 70 [(0, 1), (1, 1), (2, 1), (3, 1)] := mk_plc (by kernel_rfl)
instance : Plc Try.prog 77 [(0, 1), (1, 1), (2, 1), (3, 1)] := mk_plc (by kernel_rfl)
instance : Plc Try.prog 79 [(0, 1), (1, 1), (2, 1)] := mk_plc (by kernel_rfl)
instance : Plc Try.prog 84 [(0, 16), (16, 1), (17, 1)] := mk_plc (by kernel_rfl)
instance : Plc Try.prog 87 [(0, 1), (1, 3), (4, 18)] := mk_plc (by kernel_rfl)
instance : Plc Try.prog 111 [(0, 1), (1, 1)] := mk_plc (by kernel_rfl)
instance : Plc Try.prog 118 [(0, 1), (1, 1)] := mk_plc (by kernel_rfl)
instance : Plc Try.prog 121 [(0, 1), (1, 1)] := mk_plc (by kernel_rfl)
instance : Ints Try.prog 42 [.u32, .u32, .i64] := ⟨_, Try.underlying42, ⟨by decide, rfl, Try.underlying22, by decide, rfl, Try.underlying22, by decide, rfl, Try.underlying3, trivial⟩, by kernel_rfl, by kernel_rfl⟩
instance : Clb Try.prog 6 := ⟨_, Try.func6, rfl, by kernel_rfl⟩
instance : Clb Try.prog 7 := ⟨_, Try.func7, rfl, by kernel_rfl⟩
instance : Clb Try.prog 8 := ⟨_, Try.func8, rfl, by kernel_rfl⟩
instance : Clb Try.prog 9 := ⟨_, Try.func9, rfl, by kernel_rfl⟩
instance : Clb Try.prog 10 := ⟨_, Try.func10, rfl, by kernel_rfl⟩
instance : Clb Try.prog 11 := ⟨_, Try.func11, rfl, by kernel_rfl⟩
instance : Clb Try.prog 12 := ⟨_, Try.func12, rfl, by kernel_rfl⟩
instance : Clb Try.prog 13 := ⟨_, Try.func13, rfl, by kernel_rfl⟩
instance : Clb Try.prog 14 := ⟨_, Try.func14, rfl, by kernel_rfl⟩
instance : Clb Try.prog 15 := ⟨_, Try.func15, rfl, by kernel_rfl⟩
instance : Clb Try.prog 16 := ⟨_, Try.func16, rfl, by kernel_rfl⟩
instance : Clb Try.prog 17 := ⟨_, Try.func17, rfl, by kernel_rfl⟩
instance : Clb Try.prog 18 := ⟨_, Try.func18, rfl, by kernel_rfl⟩
instance : Clb Try.prog 19 := ⟨_, Try.func19, rfl, by kernel_rfl⟩
instance : Clb Try.prog 20 := ⟨_, Try.func20, rfl, by kernel_rfl⟩
instance : Clb Try.prog 21 := ⟨_, Try.func21, rfl, by kernel_rfl⟩
instance : Clb Try.prog 22 := ⟨_, Try.func22, rfl, by kernel_rfl⟩
instance : Clb Try.prog 23 := ⟨_, Try.func23, rfl, by kernel_rfl⟩
instance : Clb Try.prog 24 := ⟨_, Try.func24, rfl, by kernel_rfl⟩
instance : Clb Try.prog 25 := ⟨_, Try.func25, rfl, by kernel_rfl⟩
instance : Clb Try.prog 26 := ⟨_, Try.func26, rfl, by kernel_rfl⟩
instance : Clb Try.prog 27 := ⟨_, Try.func27, rfl, by kernel_rfl⟩
instance : Clb Try.prog 28 := ⟨_, Try.func28, rfl, by kernel_rfl⟩
instance : Clb Try.prog 29 := ⟨_, Try.func29, rfl, by kernel_rfl⟩
instance : Clb Try.prog 30 := ⟨_, Try.func30, rfl, by kernel_rfl⟩
instance : Clb Try.prog 31 := ⟨_, Try.func31, rfl, by kernel_rfl⟩
instance : Clb Try.prog 32 := ⟨_, Try.func32, rfl, by kernel_rfl⟩
instance : Clb Try.prog 33 := ⟨_, Try.func33, rfl, by kernel_rfl⟩
instance : Clb Try.prog 34 := ⟨_, Try.func34, rfl, by kernel_rfl⟩
instance : Clb Try.prog 35 := ⟨_, Try.func35, rfl, by kernel_rfl⟩
instance : Clb Try.prog 36 := ⟨_, Try.func36, rfl, by kernel_rfl⟩
instance : Clb Try.prog 37 := ⟨_, Try.func37, rfl, by kernel_rfl⟩
instance : Clb Try.prog 38 := ⟨_, Try.func38, rfl, by kernel_rfl⟩
instance : Clb Try.prog 39 := ⟨_, Try.func39, rfl, by kernel_rfl⟩
instance : Clb Try.prog 40 := ⟨_, Try.func40, rfl, by kernel_rfl⟩
instance : Clb Try.prog 41 := ⟨_, Try.func41, rfl, by kernel_rfl⟩
instance : Clb Try.prog 42 := ⟨_, Try.func42, rfl, by kernel_rfl⟩
instance : Clb Try.prog 43 := ⟨_, Try.func43, rfl, by kernel_rfl⟩
instance : Clb Try.prog 44 := ⟨_, Try.func44, rfl, by kernel_rfl⟩
instance : Clb Try.prog 45 := ⟨_, Try.func45, rfl, by kernel_rfl⟩
instance : Clb Try.prog 46 := ⟨_, Try.func46, rfl, by kernel_rfl⟩
instance : Clb Try.prog 47 := ⟨_, Try.func47, rfl, by kernel_rfl⟩
instance : Clb Try.prog 48 := ⟨_, Try.func48, rfl, by kernel_rfl⟩
instance : Clb Try.prog 49 := ⟨_, Try.func49, rfl, by kernel_rfl⟩
instance : Clb Try.prog 50 := ⟨_, Try.func50, rfl, by kernel_rfl⟩
instance : Clb Try.prog 51 := ⟨_, Try.func51, rfl, by kernel_rfl⟩
instance : Clb Try.prog 52 := ⟨_, Try.func52, rfl, by kernel_rfl⟩
instance : Clb Try.prog 53 := ⟨_, Try.func53, rfl, by kernel_rfl⟩
instance : Clb Try.prog 54 := ⟨_, Try.func54, rfl, by kernel_rfl⟩
instance : Clb Try.prog 55 := ⟨_, Try.func55, rfl, by kernel_rfl⟩
instance : Clb Try.prog 56 := ⟨_, Try.func56, rfl, by kernel_rfl⟩
instance : Clb Try.prog 57 := ⟨_, Try.func57, rfl, by kernel_rfl⟩
instance : Clb Try.prog 58 := ⟨_, Try.func58, rfl, by kernel_rfl⟩
instance : Clb Try.prog 59 := ⟨_, Try.func59, rfl, by kernel_rfl⟩
instance : Clb Try.prog 60 := ⟨_, Try.func60, rfl, by kernel_rfl⟩
end Go.Proofs.Yteikjachfafadaa
