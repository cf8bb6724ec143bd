/- WHAT THE PROGRAM's TABLE SAYS of the types that its functions use. -/
import Derived.Test.YtfcmjlbfoindaaaSl
import Derived.Test.YtfcmjlbfoindaaaBase
namespace Go.Proofs.Ytfcmjlbfoindaaa
open Go.RowKit Go.Fp
instance : One Try.prog 2 := ⟨(mk_one (P := Try.prog) (by kernel_rfl) (by kernel_rfl)).out⟩
instance : One Try.prog 3 := ⟨(mk_one (P := Try.prog) (by kernel_rfl) (by kernel_rfl)).out⟩
instance : One Try.prog 4 := ⟨(mk_one (P := Try.prog) (by kernel_rfl) (by kernel_rfl)).out⟩
instance : One Try.prog 5 := ⟨(mk_one (P := Try.prog) (by kernel_rfl) (by kernel_rfl)).out⟩
instance : One Try.prog 38 := ⟨(mk_one (P := Try.prog) (by kernel_rfl) (by kernel_rfl)).out⟩
instance : One Try.prog 55 := ⟨(mk_one (P := Try.prog) (by kernel_rfl) (by kernel_rfl)).out⟩
instance : One Try.prog 58 := ⟨(mk_one (P := Try.prog) (by kernel_rfl) (by kernel_rfl)).out⟩
instance : One Try.prog 61 := ⟨(mk_one (P := Try.prog) (by kernel_rfl) (by kernel_rfl)).out⟩
instance : One Try.prog 71 := ⟨(mk_one (P := Try.prog) (by kernel_rfl) (by kernel_rfl)).out⟩
instance : One Try.prog 76 := ⟨(mk_one (P := Try.prog) (by kernel_rfl) (by kernel_rfl)).out⟩
instance : One Try.prog 79 := ⟨(mk_one (P := Try.prog) (by kernel_rfl) (by kernel_rfl)).out⟩
instance : One Try.prog 96 := ⟨(mk_one (P := Try.prog) (by kernel_rfl) (by kernel_rfl)).out⟩
instance : One Try.prog 97 := ⟨(mk_one (P := Try.prog) (by kernel_rfl) (by kernel_rfl)).out⟩
instance : One Try.prog 100 := ⟨(mk_one (P := Try.prog) (by kernel_rfl) (by kernel_rfl)).out⟩
instance : One Try.prog 106 := ⟨(mk_one (P := Try.prog) (by kernel_rfl) (by kernel_rfl)).out⟩
instance : One Try.prog 116 := ⟨(mk_one (P := Try.prog) (by kernel_rfl) (by kernel_rfl)).out⟩
instance : One Try.prog 120 := ⟨(mk_one (P := Try.prog) (by kernel_rfl) (by kernel_rfl)).out⟩
instance : One Try.prog 136 := ⟨(mk_one (P := Try.prog) (by kernel_rfl) (by kernel_rfl)).out⟩
instance : One Try.prog 141 := ⟨(mk_one (P := Try.prog) (by kernel_rfl) (by kernel_rfl)).out⟩
instance : One Try.prog 177 := ⟨(mk_one (P := Try.prog) (by kernel_rfl) (by kernel_rfl)).out⟩
instance : One Try.prog 180 := ⟨(mk_one (P := Try.prog) (by kernel_rfl) (by kernel_rfl)).out⟩
instance : Row Try.prog 23 3 := ⟨(mk_row (P := Try.prog) (by kernel_rfl) (by kernel_rfl)).out⟩
instance : Row Try.prog 24 3 := ⟨(mk_row (P := Try.prog) (by kernel_rfl) (by kernel_rfl)).out⟩
instance : Row Try.prog 26 4 := ⟨(mk_row (P := Try.prog) (by kernel_rfl) (by kernel_rfl)).out⟩
instance : Row Try.prog 28 6 := ⟨(mk_row (P := Try.prog) (by kernel_rfl) (by kernel_rfl)).out⟩
instance : Row Try.prog 30 2 := ⟨(mk_row (P := Try.prog) (by kernel_rfl) (by kernel_rfl)).out⟩
instance : Row Try.prog 32 2 := ⟨(mk_row (P := Try.prog) (by kernel_rfl) (by kernel_rfl)).out⟩
instance : Row Try.prog 34 15 := ⟨(mk_row (P := Try.prog) (by kernel_rfl) (by kernel_rfl)).out⟩
instance : Row Try.prog 37 4 := ⟨(mk_row (P := Try.prog) (by kernel_rfl) (by kernel_rfl)).out⟩
instance : Row Try.prog 50 4 := ⟨(mk_row (P := Try.prog) (by kernel_rfl) (by kernel_rfl)).out⟩
instance : Row Try.prog 57 2 := ⟨(mk_row (P := Try.prog) (by kernel_rfl) (by kernel_rfl)).out⟩
instance : Row Try.prog 60 2 := ⟨(mk_row (P := Try.prog) (by kernel_rfl) (by kernel_rfl)).out⟩
instance : Row Try.prog 62 16 := ⟨(mk_row (P := Try.prog) (by kernel_rfl) (by kernel_rfl)).out⟩
instance : Row Try.prog 64 34 := ⟨(mk_row (P := Try.prog) (by kernel_rfl) (by kernel_rfl)).out⟩
instance : Row Try.prog 65 1088 := ⟨(mk_row (P := Try.prog) (by kernel_rfl) (by kernel_rfl)).out⟩
instance : Row Try.prog 67 1122 := ⟨(mk_row (P := Try.prog) (by kernel_rfl) (by kernel_rfl)).out⟩
instance : Row Try.prog 70 3 := ⟨(mk_row (P := Try.prog) (by kernel_rfl) (by kernel_rfl)).out⟩
instance : Row Try.prog 73 18 := ⟨(mk_row (P := Try.prog) (by kernel_rfl) (by kernel_rfl)).out⟩
instance : Row Try.prog 75 22 := ⟨(mk_row (P := Try.prog) (by kernel_rfl) (by kernel_rfl)).out⟩
instance : Row Try.prog 81 2 := ⟨(mk_row (P := Try.prog) (by kernel_rfl) (by kernel_rfl)).out⟩
instance : Row Try.prog 84 2 := ⟨(mk_row (P := Try.prog) (by kernel_rfl) (by kernel_rfl)).out⟩
instance : Row Try.prog 86 16 := ⟨(mk_row (P := Try.prog) (by kernel_rfl) (by kernel_rfl)).out⟩
instance : Row Try.prog 88 34 := ⟨(mk_row (P := Try.prog) (by kernel_rfl) (by kernel_rfl)).out⟩
instance : Row Try.prog 90 1088 := ⟨(mk_row (P := Try.prog) (by kernel_rfl) (by kernel_rfl)).out⟩
instance : Row Try.prog 92 1122 := ⟨(mk_row (P := Try.prog) (by kernel_rfl) (by kernel_rfl)).out⟩
instance : Row Try.prog 95 32 := ⟨(mk_row (P := Try.prog) (by kernel_rfl) (by kernel_rfl)).out⟩
instance : Row Try.prog 104 6 := ⟨(mk_row (P := Try.prog) (by kernel_rfl) (by kernel_rfl)).out⟩
instance : Row Try.prog 119 3 := ⟨(mk_row (P := Try.prog) (by kernel_rfl) (by kernel_rfl)).out⟩
instance : Row Try.prog 122 18 := ⟨(mk_row (P := Try.prog) (by kernel_rfl) (by kernel_rfl)).out⟩
instance : Row Try.prog 124 22 := ⟨(mk_row (P := Try.prog) (by kernel_rfl) (by kernel_rfl)).out⟩
instance : Row Try.prog 137 8 := ⟨(mk_row (P := Try.prog) (by kernel_rfl) (by kernel_rfl)).out⟩
instance : Row Try.prog 139 17 := ⟨(mk_row (P := Try.prog) (by kernel_rfl) (by kernel_rfl)).out⟩
instance : Row Try.prog 140 32 := ⟨(mk_row (P := Try.prog) (by kernel_rfl) (by kernel_rfl)).out⟩
instance : Row Try.prog 147 37 := ⟨(mk_row (P := Try.prog) (by kernel_rfl) (by kernel_rfl)).out⟩
instance : Row Try.prog 153 7 := ⟨(mk_row (P := Try.prog) (by kernel_rfl) (by kernel_rfl)).out⟩
instance : Row Try.prog 161 2 := ⟨(mk_row (P := Try.prog) (by kernel_rfl) (by kernel_rfl)).out⟩
instance : Row Try.prog 165 2 := ⟨(mk_row (P := Try.prog) (by kernel_rfl) (by kernel_rfl)).out⟩
instance : Row Try.prog 167 5 := ⟨(mk_row (P := Try.prog) (by kernel_rfl) (by kernel_rfl)).out⟩
instance : Row Try.prog 175 64 := ⟨(mk_row (P := Try.prog) (by kernel_rfl) (by kernel_rfl)).out⟩
instance : Row Try.prog 189 8 := ⟨(mk_row (P := Try.prog) (by kernel_rfl) (by kernel_rfl)).out⟩
instance : Row Try.prog 191 11 := ⟨(mk_row (P := Try.prog) (by kernel_rfl) (by kernel_rfl)).out⟩
instance : Row Try.prog 195 2 := ⟨(mk_row (P := Try.prog) (by kernel_rfl) (by kernel_rfl)).out⟩
instance : Row Try.prog 197 64 := ⟨(mk_row (P := Try.prog) (by kernel_rfl) (by kernel_rfl)).out⟩
instance : Zero Try.prog 5 [.int .u8 0] := mk_zero (by kernel_rfl)
instance : Zero Try.prog 24 [.int .i64 0, .int .i64 0, .int .i64 0] := mk_zero (by kernel_rfl)
instance : Zero Try.prog 26 [.int .i64 0, .int .i64 0, .int .i64 0, .int .i64 0] := mk_zero (by kernel_rfl)
instance : Zero Try.prog 28 [.int .i64 0, .int .i64 0, .int .i64 0, .int .i64 0, .int .i64 0, .int .i64 0] := mk_zero (by kernel_rfl)
instance : Zero Try.prog 30 [.int .i64 0, .int .i64 0] := mk_zero (by kernel_rfl)
instance : Zero Try.prog 32 [.int .i64 0, .int .i64 0] := mk_zero (by kernel_rfl)
instance : Zero Try.prog 34 [.int .i64 0, .int .i64 0, .int .i64 0, .int .i64 0, .int .i64 0, .int .i64 0, .int .i64 0, .int .i64 0, .int .i64 0, .int .i64 0, .int .i64 0, .int .i64 0, .int .i64 0, .int .i64 0, .int .i64 0] := mk_zero (by kernel_rfl)
instance : Zero Try.prog 37 [.int .i64 0, .int .i64 0, .int .i64 0, .int .i64 0] := mk_zero (by kernel_rfl)
instance : Zero Try.prog 50 [.int .i64 0, .int .i64 0, .int .i64 0, .int .i64 0] := mk_zero (by kernel_rfl)
instance : Zero Try.prog 61 [.int .u32 0] := mk_zero (by kernel_rfl)
instance : Zero Try.prog 62 [.int .u8 0, .int .u8 0, .int .u8 0, .int .u8 0, .int .u8 0, .int .u8 0, .int .u8 0, .int .u8 0, .int .u8 0, .int .u8 0, .int .u8 0, .int .u8 0, .int .u8 0, .int .u8 0, .int .u8 0, .int .u8 0] := mk_zero (by kernel_rfl)
instance : Zero Try.prog 75 [.int .i64 0, .int .u32 0, .int .u32 0, .int .i64 0, .int .u8 0, .int .u8 0, .int .u8 0, .int .u8 0, .int .u8 0, .int .u8 0, .int .u8 0, .int .u8 0, .int .u8 0, .int .u8 0, .int .u8 0, .int .u8 0, .int .u8 0, .int .u8 0, .int .u8 0, .int .u8 0, .slice none 0 0, .slice none 0 0] := mk_zero (by kernel_rfl)
instance : Zero Try.prog 76 [.slice none 0 0] := mk_zero (by kernel_rfl)
instance : Zero Try.prog 81 [.bool false, .slice none 0 0] := mk_zero (by kernel_rfl)
instance : Zero Try.prog 84 [.int .u8 0, .slice none 0 0] := mk_zero (by kernel_rfl)
instance : Zero Try.prog 86 [.int .u8 0, .int .u8 0, .int .u8 0, .int .u8 0, .int .u8 0, .int .u8 0, .int .u8 0, .int .u8 0, .int .u8 0, .int .u8 0, .int .u8 0, .int .u8 0, .int .u8 0, .int .u8 0, .int .u8 0, .int .u8 0] := mk_zero (by kernel_rfl)
instance : Zero Try.prog 88 [.int .i64 0, .int .u32 0, .int .u8 0, .int .u8 0, .int .u8 0, .int .u8 0, .int .u8 0, .int .u8 0, .int .u8 0, .int .u8 0, .int .u8 0, .int .u8 0, .int .u8 0, .int .u8 0, .int .u8 0, .int .u8 0, .int .u8 0, .int .u8 0, .int .u8 0, .int .u8 0, .int .u8 0, .int .u8 0, .int .u8 0, .int .u8 0, .int .u8 0, .int .u8 0, .int .u8 0, .int .u8 0, .int .u8 0, .int .u8 0, .int .u8 0, .int .u8 0, .int .u8 0, .int .u8 0] := mk_zero (by kernel_rfl)
instance : Zero Try.prog 104 [.int .i64 0, .int .i64 0, .int .u64 0, .int .u64 0, .int .i64 0, .slice none 0 0] := mk_zero (by kernel_rfl)
instance : Zero Try.prog 119 [.int .u32 0, .int .u32 0, .int .i64 0] := mk_zero (by kernel_rfl)
instance : Zero Try.prog 122 [.int .u8 0, .int .u8 0, .int .u8 0, .int .u8 0, .int .u8 0, .int .u8 0, .int .u8 0, .int .u8 0, .int .u8 0, .int .u8 0, .int .u8 0, .int .u8 0, .int .u8 0, .int .u8 0, .int .u8 0, .int .u8 0, .slice none 0 0, .slice none 0 0] := mk_zero (by kernel_rfl)
instance : Zero Try.prog 124 [.int .i64 0, .int .u32 0, .int .u32 0, .int .i64 0, .int .u8 0, .int .u8 0, .int .u8 0, .int .u8 0, .int .u8 0, .int .u8 0, .int .u8 0, .int .u8 0, .int .u8 0, .int .u8 0, .int .u8 0, .int .u8 0, .int .u8 0, .int .u8 0, .int .u8 0, .int .u8 0, .slice none 0 0, .slice none 0 0] := mk_zero (by kernel_rfl)
instance : Zero Try.prog 139 [.int .i64 0, .int .i64 0, .int .i64 0, .int .i64 0, .int .i64 0, .int .i64 0, .int .i64 0, .pointer none, .pointer none, .pointer none, .pointer none, .pointer none, .pointer none, .pointer none, .pointer none, .pointer none, .int .i64 0] := mk_zero (by kernel_rfl)
instance : Zero Try.prog 140 [.int .u8 0, .int .u8 0, .int .u8 0, .int .u8 0, .int .u8 0, .int .u8 0, .int .u8 0, .int .u8 0, .int .u8 0, .int .u8 0, .int .u8 0, .int .u8 0, .int .u8 0, .int .u8 0, .int .u8 0, .int .u8 0, .int .u8 0, .int .u8 0, .int .u8 0, .int .u8 0, .int .u8 0, .int .u8 0, .int .u8 0, .int .u8 0, .int .u8 0, .int .u8 0, .int .u8 0, .int .u8 0, .int .u8 0, .int .u8 0, .int .u8 0, .int .u8 0] := mk_zero (by kernel_rfl)
instance : Zero Try.prog 147 [.int .u8 0, .int .u8 0, .int .u8 0, .int .u8 0, .int .u8 0, .int .u8 0, .int .u8 0, .int .u8 0, .int .u8 0, .int .u8 0, .int .u8 0, .int .u8 0, .int .u8 0, .int .u8 0, .int .u8 0, .int .u8 0, .int .u8 0, .int .u8 0, .int .u8 0, .int .u8 0, .int .u8 0, .int .u8 0, .int .u8 0, .int .u8 0, .int .u8 0, .int .u8 0, .int .u8 0, .int .u8 0, .int .u8 0, .int .u8 0, .int .u8 0, .int .u8 0, .pointer none, .pointer none, .int .i64 0, .bool false, .bool false] := mk_zero (by kernel_rfl)
instance : Zero Try.prog 153 [.int .i64 0, .int .i64 0, .int .i64 0, .int .i64 0, .int .i64 0, .int .i64 0, .int .i64 0] := mk_zero (by kernel_rfl)
instance : Zero Try.prog 161 [.slice none 0 0, .bool false] := mk_zero (by kernel_rfl)
instance : Zero Try.prog 165 [.int .u64 0, .int .u64 0] := mk_zero (by kernel_rfl)
instance : Zero Try.prog 167 [.int .i64 0, .int .u64 0, .int .u64 0, .int .u64 0, .bool false] := mk_zero (by kernel_rfl)
instance : Zero Try.prog 175 [.int .u8 0, .int .u8 0, .int .u8 0, .int .u8 0, .int .u8 0, .int .u8 0, .int .u8 0, .int .u8 0, .int .u8 0, .int .u8 0, .int .u8 0, .int .u8 0, .int .u8 0, .int .u8 0, .int .u8 0, .int .u8 0, .int .u8 0, .int .u8 0, .int .u8 0, .int .u8 0, .int .u8 0, .int .u8 0, .int .u8 0, .int .u8 0, .int .u8 0, .int .u8 0, .int .u8 0, .int .u8 0, .int .u8 0, .int .u8 0, .int .u8 0, .int .u8 0, .int .u8 0, .int .u8 0, .int .u8 0, .int .u8 0, .int .u8 0, .int .u8 0, .int .u8 0, .int .u8 0, .int .u8 0, .int .u8 0, .int .u8 0, .int .u8 0, .int .u8 0, .int .u8 0, .int .u8 0, .int .u8 0, .int .u8 0, .int .u8 0, .int .u8 0, .int .u8 0, .int .u8 0, .int .u8 0, .int .u8 0, .int .u8 0, .int .u8 0, .int .u8 0, .int .u8 0, .int .u8 0, .int .u8 0, .int .u8 0, .int .u8 0, .int .u8 0] := mk_zero (by kernel_rfl)
instance : Zero Try.prog 189 [.int .u32 0, .int .u32 0, .int .u32 0, .int .u32 0, .int .u32 0, .int .u32 0, .int .u32 0, .int .u32 0] := mk_zero (by kernel_rfl)
instance : Zero Try.prog 191 [.int .u32 0, .int .u32 0, .int .u32 0, .int .u32 0, .int .u32 0, .int .u32 0, .int .u32 0, .int .u32 0, .slice none 0 0, .int .u64 0, .int .i64 0] := mk_zero (by kernel_rfl)
instance : Zero Try.prog 195 [.slice none 0 0, .int .i64 0] := mk_zero (by kernel_rfl)
instance : Zero Try.prog 197 [.int .u32 0, .int .u32 0, .int .u32 0, .int .u32 0, .int .u32 0, .int .u32 0, .int .u32 0, .int .u32 0, .int .u32 0, .int .u32 0, .int .u32 0, .int .u32 0, .int .u32 0, .int .u32 0, .int .u32 0, .int .u32 0, .int .u32 0, .int .u32 0, .int .u32 0, .int .u32 0, .int .u32 0, .int .u32 0, .int .u32 0, .int .u32 0, .int .u32 0, .int .u32 0, .int .u32 0, .int .u32 0, .int .u32 0, .int .u32 0, .int .u32 0, .int .u32 0, .int .u32 0, .int .u32 0, .int .u32 0, .int .u32 0, .int .u32 0, .int .u32 0, .int .u32 0, .int .u32 0, .int .u32 0, .int .u32 0, .int .u32 0, .int .u32 0, .int .u32 0, .int .u32 0, .int .u32 0, .int .u32 0, .int .u32 0, .int .u32 0, .int .u32 0, .int .u32 0, .int .u32 0, .int .u32 0, .int .u32 0, .int .u32 0, .int .u32 0, .int .u32 0, .int .u32 0, .int .u32 0, .int .u32 0, .int .u32 0, .int .u32 0, .int .u32 0] := mk_zero (by kernel_rfl)
instance : Fld Try.prog 23 0 0 3 := mk_fld (n := 0) (by kernel_rfl)
instance : Fld Try.prog 23 1 1 3 := mk_fld (n := 0) (by kernel_rfl)
instance : Fld Try.prog 23 2 2 3 := mk_fld (n := 0) (by kernel_rfl)
instance : Fld Try.prog 24 0 0 3 := mk_fld (n := 0) (by kernel_rfl)
instance : Fld Try.prog 24 1 1 3 := mk_fld (n := 0) (by kernel_rfl)
instance : Fld Try.prog 24 2 2 3 := mk_fld (n := 0) (by kernel_rfl)
instance : Fld Try.prog 26 0 0 3 := mk_fld (n := 0) (by kernel_rfl)
instance : Fld Try.prog 26 1 1 3 := mk_fld (n := 0) (by kernel_rfl)
instance : Fld Try.prog 26 2 2 3 := mk_fld (n := 0) (by kernel_rfl)
instance : Fld Try.prog 26 3 3 3 := mk_fld (n := 0) (by kernel_rfl)
instance : Fld Try.prog 28 0 0 3 := mk_fld (n := 0) (by kernel_rfl)
instance : Fld Try.prog 28 1 1 3 := mk_fld (n := 0) (by kernel_rfl)
instance : Fld Try.prog 28 2 2 26 := mk_fld (n := 3) (by kernel_rfl)
instance : Fld Try.prog 30 0 0 3 := mk_fld (n := 0) (by kernel_rfl)
instance : Fld Try.prog 30 1 1 3 := mk_fld (n := 0) (by kernel_rfl)
instance : Fld Try.prog 32 0 0 3 := mk_fld (n := 0) (by kernel_rfl)
instance : Fld Try.prog 32 1 1 3 := mk_fld (n := 0) (by kernel_rfl)
instance : Fld Try.prog 34 0 0 24 := mk_fld (n := 2) (by kernel_rfl)
instance : Fld Try.prog 34 1 3 28 := mk_fld (n := 5) (by kernel_rfl)
instance : Fld Try.prog 34 2 9 30 := mk_fld (n := 1) (by kernel_rfl)
instance : Fld Try.prog 34 3 11 32 := mk_fld (n := 1) (by kernel_rfl)
instance : Fld Try.prog 34 4 13 3 := mk_fld (n := 0) (by kernel_rfl)
instance : Fld Try.prog 34 5 14 3 := mk_fld (n := 0) (by kernel_rfl)
instance : Fld Try.prog 37 0 0 3 := mk_fld (n := 0) (by kernel_rfl)
instance : Fld Try.prog 37 1 1 3 := mk_fld (n := 0) (by kernel_rfl)
instance : Fld Try.prog 37 2 2 3 := mk_fld (n := 0) (by kernel_rfl)
instance : Fld Try.prog 37 3 3 3 := mk_fld (n := 0) (by kernel_rfl)
instance : Fld Try.prog 57 0 0 4 := mk_fld (n := 0) (by kernel_rfl)
instance : Fld Try.prog 57 1 1 55 := mk_fld (n := 0) (by kernel_rfl)
instance : Fld Try.prog 60 0 0 5 := mk_fld (n := 0) (by kernel_rfl)
instance : Fld Try.prog 60 1 1 58 := mk_fld (n := 0) (by kernel_rfl)
instance : Fld Try.prog 64 0 0 3 := mk_fld (n := 0) (by kernel_rfl)
instance : Fld Try.prog 64 1 1 61 := mk_fld (n := 0) (by kernel_rfl)
instance : Fld Try.prog 64 2 2 62 := mk_fld (n := 15) (by kernel_rfl)
instance : Fld Try.prog 64 3 18 62 := mk_fld (n := 15) (by kernel_rfl)
instance : Fld Try.prog 67 0 0 64 := mk_fld (n := 33) (by kernel_rfl)
instance : Fld Try.prog 67 1 34 65 := mk_fld (n := 1087) (by kernel_rfl)
instance : Fld Try.prog 70 0 0 61 := mk_fld (n := 0) (by kernel_rfl)
instance : Fld Try.prog 70 1 1 61 := mk_fld (n := 0) (by kernel_rfl)
instance : Fld Try.prog 70 2 2 3 := mk_fld (n := 0) (by kernel_rfl)
instance : Fld Try.prog 73 0 0 62 := mk_fld (n := 15) (by kernel_rfl)
instance : Fld Try.prog 73 1 16 71 := mk_fld (n := 0) (by kernel_rfl)
instance : Fld Try.prog 73 2 17 71 := mk_fld (n := 0) (by kernel_rfl)
instance : Fld Try.prog 75 0 0 3 := mk_fld (n := 0) (by kernel_rfl)
instance : Fld Try.prog 75 1 1 70 := mk_fld (n := 2) (by kernel_rfl)
instance : Fld Try.prog 75 2 4 73 := mk_fld (n := 17) (by kernel_rfl)
instance : Fld Try.prog 81 0 0 4 := mk_fld (n := 0) (by kernel_rfl)
instance : Fld Try.prog 81 1 1 79 := mk_fld (n := 0) (by kernel_rfl)
instance : Fld Try.prog 84 0 0 5 := mk_fld (n := 0) (by kernel_rfl)
instance : Fld Try.prog 84 1 1 58 := mk_fld (n := 0) (by kernel_rfl)
instance : Fld Try.prog 88 0 0 3 := mk_fld (n := 0) (by kernel_rfl)
instance : Fld Try.prog 88 1 1 61 := mk_fld (n := 0) (by kernel_rfl)
instance : Fld Try.prog 88 2 2 86 := mk_fld (n := 15) (by kernel_rfl)
instance : Fld Try.prog 88 3 18 86 := mk_fld (n := 15) (by kernel_rfl)
instance : Fld Try.prog 92 0 0 88 := mk_fld (n := 33) (by kernel_rfl)
instance : Fld Try.prog 92 1 34 90 := mk_fld (n := 1087) (by kernel_rfl)
instance : Fld Try.prog 104 0 0 3 := mk_fld (n := 0) (by kernel_rfl)
instance : Fld Try.prog 104 1 1 3 := mk_fld (n := 0) (by kernel_rfl)
instance : Fld Try.prog 104 2 2 100 := mk_fld (n := 0) (by kernel_rfl)
instance : Fld Try.prog 104 3 3 100 := mk_fld (n := 0) (by kernel_rfl)
instance : Fld Try.prog 104 4 4 3 := mk_fld (n := 0) (by kernel_rfl)
instance : Fld Try.prog 104 5 5 76 := mk_fld (n := 0) (by kernel_rfl)
instance : Fld Try.prog 119 0 0 61 := mk_fld (n := 0) (by kernel_rfl)
instance : Fld Try.prog 119 1 1 61 := mk_fld (n := 0) (by kernel_rfl)
instance : Fld Try.prog 119 2 2 3 := mk_fld (n := 0) (by kernel_rfl)
instance : Fld Try.prog 122 0 0 86 := mk_fld (n := 15) (by kernel_rfl)
instance : Fld Try.prog 122 1 16 120 := mk_fld (n := 0) (by kernel_rfl)
instance : Fld Try.prog 122 2 17 120 := mk_fld (n := 0) (by kernel_rfl)
instance : Fld Try.prog 124 0 0 3 := mk_fld (n := 0) (by kernel_rfl)
instance : Fld Try.prog 124 1 1 119 := mk_fld (n := 2) (by kernel_rfl)
instance : Fld Try.prog 124 2 4 122 := mk_fld (n := 17) (by kernel_rfl)
instance : Fld Try.prog 139 0 0 3 := mk_fld (n := 0) (by kernel_rfl)
instance : Fld Try.prog 139 1 1 28 := mk_fld (n := 5) (by kernel_rfl)
instance : Fld Try.prog 139 3 8 137 := mk_fld (n := 7) (by kernel_rfl)
instance : Fld Try.prog 139 4 16 2 := mk_fld (n := 0) (by kernel_rfl)
instance : Fld Try.prog 147 0 0 140 := mk_fld (n := 31) (by kernel_rfl)
instance : Fld Try.prog 147 1 32 141 := mk_fld (n := 0) (by kernel_rfl)
instance : Fld Try.prog 147 2 33 106 := mk_fld (n := 0) (by kernel_rfl)
instance : Fld Try.prog 147 3 34 2 := mk_fld (n := 0) (by kernel_rfl)
instance : Fld Try.prog 153 1 4 3 := mk_fld (n := 0) (by kernel_rfl)
instance : Fld Try.prog 153 2 5 3 := mk_fld (n := 0) (by kernel_rfl)
instance : Fld Try.prog 161 0 0 76 := mk_fld (n := 0) (by kernel_rfl)
instance : Fld Try.prog 161 1 1 4 := mk_fld (n := 0) (by kernel_rfl)
instance : Fld Try.prog 167 0 0 3 := mk_fld (n := 0) (by kernel_rfl)
instance : Fld Try.prog 167 1 1 100 := mk_fld (n := 0) (by kernel_rfl)
instance : Fld Try.prog 167 2 2 100 := mk_fld (n := 0) (by kernel_rfl)
instance : Fld Try.prog 167 3 3 100 := mk_fld (n := 0) (by kernel_rfl)
instance : Fld Try.prog 167 4 4 4 := mk_fld (n := 0) (by kernel_rfl)
instance : Fld Try.prog 191 0 0 189 := mk_fld (n := 7) (by kernel_rfl)
instance : Fld Try.prog 191 1 8 76 := mk_fld (n := 0) (by kernel_rfl)
instance : Fld Try.prog 191 2 9 100 := mk_fld (n := 0) (by kernel_rfl)
instance : Fld Try.prog 191 3 10 3 := mk_fld (n := 0) (by kernel_rfl)
instance : Fld Try.prog 195 0 0 76 := mk_fld (n := 0) (by kernel_rfl)
instance : Fld Try.prog 195 1 1 38 := mk_fld (n := 0) (by kernel_rfl)
instance : Slc Try.prog 55 75 22 := ⟨Try.underlying55, by kernel_rfl⟩
instance : Slc Try.prog 58 61 1 := ⟨Try.underlying58, by kernel_rfl⟩
instance : Slc Try.prog 71 62 16 := ⟨Try.underlying71, by kernel_rfl⟩
instance : Slc Try.prog 76 5 1 := ⟨Try.underlying76, by kernel_rfl⟩
instance : Slc Try.prog 79 124 22 := ⟨Try.underlying79, by kernel_rfl⟩
instance : Slc Try.prog 96 76 1 := ⟨Try.underlying96, by kernel_rfl⟩
instance : Slc Try.prog 120 86 16 := ⟨Try.underlying120, by kernel_rfl⟩
instance : Byt Try.prog 5 1 := ⟨by kernel_rfl⟩
instance : Byt Try.prog 61 4 := ⟨by kernel_rfl⟩
instance : Byt Try.prog 62 16 := ⟨by kernel_rfl⟩
instance : Byt Try.prog 75 88 := ⟨by kernel_rfl⟩
instance : Byt Try.prog 76 24 := ⟨by kernel_rfl⟩
instance : Byt Try.prog 86 16 := ⟨by kernel_rfl⟩
instance : Byt Try.prog 124 88 := ⟨by kernel_rfl⟩
instance : Arr Try.prog 50 3 4 1 := ⟨Try.underlying50, by kernel_rfl⟩
instance : Arr Try.prog 62 5 16 1 := ⟨Try.underlying62, by kernel_rfl⟩
instance : Arr Try.prog 65 62 68 16 := ⟨Try.underlying65, by kernel_rfl⟩
instance : Arr Try.prog 86 5 16 1 := ⟨Try.underlying86, by kernel_rfl⟩
instance : Arr Try.prog 90 86 68 16 := ⟨Try.underlying90, by kernel_rfl⟩
instance : Arr Try.prog 95 5 32 1 := ⟨Try.underlying95, by kernel_rfl⟩
instance : Arr Try.prog 137 136 8 1 := ⟨Try.underlying137, by kernel_rfl⟩
instance : Arr Try.prog 140 5 32 1 := ⟨Try.underlying140, by kernel_rfl⟩
instance : Arr Try.prog 175 5 64 1 := ⟨Try.underlying175, by kernel_rfl⟩
instance : Arr Try.prog 189 61 8 1 := ⟨Try.underlying189, by kernel_rfl⟩
instance : Arr Try.prog 197 61 64 1 := ⟨Try.underlying197, by kernel_rfl⟩
instance : Und Try.prog 2 (.int .i64) := ⟨Try.underlying2⟩
instance : Und Try.prog 3 (.int .i64) := ⟨Try.underlying3⟩
instance : Und Try.prog 4 (.bool) := ⟨Try.underlying4⟩
instance : Und Try.prog 5 (.int .u8) := ⟨Try.underlying5⟩
instance : Und Try.prog 38 (.int .i64) := ⟨Try.underlying38⟩
instance : Und Try.prog 50 (.array 4 3) := ⟨Try.underlying50⟩
instance : Und Try.prog 55 (.slice 75) := ⟨Try.underlying55⟩
instance : Und Try.prog 58 (.slice 61) := ⟨Try.underlying58⟩
instance : Und Try.prog 61 (.int .u32) := ⟨Try.underlying61⟩
instance : Und Try.prog 62 (.array 16 5) := ⟨Try.underlying62⟩
instance : Und Try.prog 65 (.array 68 62) := ⟨Try.underlying65⟩
instance : Und Try.prog 71 (.slice 62) := ⟨Try.underlying71⟩
instance : Und Try.prog 76 (.slice 5) := ⟨Try.underlying76⟩
instance : Und Try.prog 79 (.slice 124) := ⟨Try.underlying79⟩
instance : Und Try.prog 86 (.array 16 5) := ⟨Try.underlying86⟩
instance : Und Try.prog 90 (.array 68 86) := ⟨Try.underlying90⟩
instance : Und Try.prog 95 (.array 32 5) := ⟨Try.underlying95⟩
instance : Und Try.prog 96 (.slice 76) := ⟨Try.underlying96⟩
instance : Und Try.prog 97 (.pointer 139) := ⟨Try.underlying97⟩
instance : Und Try.prog 100 (.int .u64) := ⟨Try.underlying100⟩
instance : Und Try.prog 106 (.pointer 153) := ⟨Try.underlying106⟩
instance : Und Try.prog 116 (.pointer 161) := ⟨Try.underlying116⟩
instance : Und Try.prog 120 (.slice 86) := ⟨Try.underlying120⟩
instance : Und Try.prog 136 (.pointer 147) := ⟨Try.underlying136⟩
instance : Und Try.prog 137 (.array 8 136) := ⟨Try.underlying137⟩
instance : Und Try.prog 140 (.array 32 5) := ⟨Try.underlying140⟩
instance : Und Try.prog 141 (.pointer 167) := ⟨Try.underlying141⟩
instance : Und Try.prog 175 (.array 64 5) := ⟨Try.underlying175⟩
instance : Und Try.prog 177 (.pointer 191) := ⟨Try.underlying177⟩
instance : Und Try.prog 180 (.pointer 195) := ⟨Try.underlying180⟩
instance : Und Try.prog 189 (.array 8 61) := ⟨Try.underlying189⟩
instance : Und Try.prog 197 (.array 64 61) := ⟨Try.underlying197⟩
instance : Plc Try.prog 24 [(0, 1), (1, 1), (2, 1)] := mk_plc (by kernel_rfl)
instance : Plc Try.prog 26 [(0, 1), (1, 1), (2, 1), (3, 1)] := mk_plc (by kernel_rfl)
instance : Plc Try.prog 28 [(0, 1), (1, 1), (2, 4)] := mk_plc (by kernel_rfl)
instance : Plc Try.prog 30 [(0, 1), (1, 1)] := mk_plc (by kernel_rfl)
instance : Plc Try.prog 32 [(0, 1), (1, 1)] := mk_plc (by kernel_rfl)
instance : Plc Try.prog 34 [(0, 3), (3, 6), (9, 2), (11, 2), (13, 1), (14, 1)] := mk_plc (by kernel_rfl)
instance : Plc Try.prog 37 [(0, 1), (1, 1), (2, 1), (3, 1)] := mk_plc (by kernel_rfl)
instance : Plc Try.prog 50 [(0, 1), (1, 1), (2, 1), (3, 1)] := mk_plca Try.underlying50 (by kernel_rfl : _ = some 1) rfl
instance : Plc Try.prog 81 [(0, 1), (1, 1)] := mk_plc (by kernel_rfl)
instance : Plc Try.prog 84 [(0, 1), (1, 1)] := mk_plc (by kernel_rfl)
instance : Plc Try.prog 88 [(0, 1), (1, 1), (2, 16), (18, 16)] := mk_plc (by kernel_rfl)
instance : Plc Try.prog 92 [(0, 34), (34, 1088)] := mk_plc (by kernel_rfl)
instance : Plc Try.prog 104 [(0, 1), (1, 1), (2, 1), (3, 1), (4, 1), (5, 1)] := mk_plc (by kernel_rfl)
instance : Plc Try.prog 119 [(0, 1), (1, 1), (2, 1)] := mk_plc (by kernel_rfl)
instance : Plc Try.prog 122 [(0, 16), (16, 1), (17, 1)] := mk_plc (by kernel_rfl)
instance : Plc Try.prog 124 [(0, 1), (1, 3), (4, 18)] := mk_plc (by kernel_rfl)
instance : Plc Try.prog 139 [(0, 1), (1, 6), (7, 1), (8, 8), (16, 1)] := mk_plc (by kernel_rfl)
instance : Plc Try.prog 147 [(0, 32), (32, 1), (33, 1), (34, 1), (35, 1), (36, 1)] := mk_plc (by kernel_rfl)
instance : Plc Try.prog 153 [(0, 4), (4, 1), (5, 1), (6, 1)] := mk_plc (by kernel_rfl)
instance : Plc Try.prog 161 [(0, 1), (1, 1)] := mk_plc (by kernel_rfl)
instance : Plc Try.prog 165 [(0, 1), (1, 1)] := mk_plc (by kernel_rfl)
instance : Plc Try.prog 167 [(0, 1), (1, 1), (2, 1), (3, 1), (4, 1)] := mk_plc (by kernel_rfl)
instance : Plc Try.prog 189 [(0, 1), (1, 1), (2, 1), (3, 1), (4, 1), (5, 1), (6, 1), (7, 1)] := mk_plca Try.underlying189 (by kernel_rfl : _ = some 1) rfl
instance : Plc Try.prog 191 [(0, 8), (8, 1), (9, 1), (10, 1)] := mk_plc (by kernel_rfl)
instance : Plc Try.prog 195 [(0, 1), (1, 1)] := mk_plc (by kernel_rfl)
instance : Plc Try.prog 197 [(0, 1), (1, 1), (2, 1), (3, 1), (4, 1), (5, 1), (6, 1), (7, 1), (8, 1), (9, 1), (10, 1), (11, 1), (12, 1), (13, 1), (14, 1), (15, 1), (16, 1), (17, 1), (18, 1), (19, 1), (20, 1), (21, 1), (22, 1), (23, 1), (24, 1), (25, 1), (26, 1), (27, 1), (28, 1), (29, 1), (30, 1), (31, 1), (32, 1), (33, 1), (34, 1), (35, 1), (36, 1), (37, 1), (38, 1), (39, 1), (40, 1), (41, 1), (42, 1), (43, 1), (44, 1), (45, 1), (46, 1), (47, 1), (48, 1), (49, 1), (50, 1), (51, 1), (52, 1), (53, 1), (54, 1), (55, 1), (56, 1), (57, 1), (58, 1), (59, 1), (60, 1), (61, 1), (62, 1), (63, 1)] := mk_plca Try.underlying197 (by kernel_rfl : _ = some 1) rfl
instance : Ints Try.prog 26 [.i64, .i64, .i64, .i64] := ⟨_, Try.underlying26, ⟨by decide, rfl, Try.underlying3, by decide, rfl, Try.underlying3, by decide, rfl, Try.underlying3, by decide, rfl, Try.underlying3, trivial⟩, by kernel_rfl, by kernel_rfl⟩
instance : Ints Try.prog 37 [.i64, .i64, .i64, .i64] := ⟨_, Try.underlying37, ⟨by decide, rfl, Try.underlying3, by decide, rfl, Try.underlying3, by decide, rfl, Try.underlying3, by decide, rfl, Try.underlying3, trivial⟩, by kernel_rfl, by kernel_rfl⟩
instance : Clb Try.prog 7 := ⟨_, Try.func7, rfl, by kernel_rfl⟩
instance : Clb Try.prog 8 := ⟨_, Try.func8, rfl, by kernel_rfl⟩
instance : Clb Try.prog 9 := ⟨_, Try.func9, rfl, by kernel_rfl⟩
instance : Clb Try.prog 10 := ⟨_, Try.func10, rfl, by kernel_rfl⟩
instance : Clb Try.prog 11 := ⟨_, Try.func11, rfl, by kernel_rfl⟩
instance : Clb Try.prog 12 := ⟨_, Try.func12, rfl, by kernel_rfl⟩
instance : Clb Try.prog 13 := ⟨_, Try.func13, rfl, by kernel_rfl⟩
instance : Clb Try.prog 14 := ⟨_, Try.func14, rfl, by kernel_rfl⟩
instance : Clb Try.prog 15 := ⟨_, Try.func15, rfl, by kernel_rfl⟩
instance : Clb Try.prog 16 := ⟨_, Try.func16, rfl, by kernel_rfl⟩
instance : Clb Try.prog 17 := ⟨_, Try.func17, rfl, by kernel_rfl⟩
instance : Clb Try.prog 18 := ⟨_, Try.func18, rfl, by kernel_rfl⟩
instance : Clb Try.prog 19 := ⟨_, Try.func19, rfl, by kernel_rfl⟩
instance : Clb Try.prog 20 := ⟨_, Try.func20, rfl, by kernel_rfl⟩
instance : Clb Try.prog 21 := ⟨_, Try.func21, rfl, by kernel_rfl⟩
instance : Clb Try.prog 22 := ⟨_, Try.func22, rfl, by kernel_rfl⟩
instance : Clb Try.prog 23 := ⟨_, Try.func23, rfl, by kernel_rfl⟩
instance : Clb Try.prog 24 := ⟨_, Try.func24, rfl, by kernel_rfl⟩
instance : Clb Try.prog 25 := ⟨_, Try.func25, rfl, by kernel_rfl⟩
instance : Clb Try.prog 26 := ⟨_, Try.func26, rfl, by kernel_rfl⟩
instance : Clb Try.prog 27 := ⟨_, Try.func27, rfl, by kernel_rfl⟩
instance : Clb Try.prog 28 := ⟨_, Try.func28, rfl, by kernel_rfl⟩
instance : Clb Try.prog 29 := ⟨_, Try.func29, rfl, by kernel_rfl⟩
instance : Clb Try.prog 30 := ⟨_, Try.func30, rfl, by kernel_rfl⟩
instance : Clb Try.prog 31 := ⟨_, Try.func31, rfl, by kernel_rfl⟩
instance : Clb Try.prog 32 := ⟨_, Try.func32, rfl, by kernel_rfl⟩
instance : Clb Try.prog 33 := ⟨_, Try.func33, rfl, by kernel_rfl⟩
instance : Clb Try.prog 34 := ⟨_, Try.func34, rfl, by kernel_rfl⟩
instance : Clb Try.prog 35 := ⟨_, Try.func35, rfl, by kernel_rfl⟩
instance : Clb Try.prog 36 := ⟨_, Try.func36, rfl, by kernel_rfl⟩
instance : Clb Try.prog 37 := ⟨_, Try.func37, rfl, by kernel_rfl⟩
instance : Clb Try.prog 38 := ⟨_, Try.func38, rfl, by kernel_rfl⟩
instance : Clb Try.prog 39 := ⟨_, Try.func39, rfl, by kernel_rfl⟩
instance : Clb Try.prog 40 := ⟨_, Try.func40, rfl, by kernel_rfl⟩
instance : Clb Try.prog 41 := ⟨_, Try.func41, rfl, by kernel_rfl⟩
instance : Clb Try.prog 42 := ⟨_, Try.func42, rfl, by kernel_rfl⟩
instance : Clb Try.prog 43 := ⟨_, Try.func43, rfl, by kernel_rfl⟩
instance : Clb Try.prog 44 := ⟨_, Try.func44, rfl, by kernel_rfl⟩
instance : Clb Try.prog 45 := ⟨_, Try.func45, rfl, by kernel_rfl⟩
instance : Clb Try.prog 46 := ⟨_, Try.func46, rfl, by kernel_rfl⟩
instance : Clb Try.prog 47 := ⟨_, Try.func47, rfl, by kernel_rfl⟩
instance : Clb Try.prog 48 := ⟨_, Try.func48, rfl, by kernel_rfl⟩
instance : Clb Try.prog 49 := ⟨_, Try.func49, rfl, by kernel_rfl⟩
instance : Clb Try.prog 50 := ⟨_, Try.func50, rfl, by kernel_rfl⟩
instance : Clb Try.prog 51 := ⟨_, Try.func51, rfl, by kernel_rfl⟩
instance : Clb Try.prog 52 := ⟨_, Try.func52, rfl, by kernel_rfl⟩
instance : Clb Try.prog 53 := ⟨_, Try.func53, rfl, by kernel_rfl⟩
instance : Clb Try.prog 54 := ⟨_, Try.func54, rfl, by kernel_rfl⟩
instance : Clb Try.prog 55 := ⟨_, Try.func55, rfl, by kernel_rfl⟩
instance : Clb Try.prog 56 := ⟨_, Try.func56, rfl, by kernel_rfl⟩
instance : Clb Try.prog 57 := ⟨_, Try.func57, rfl, by kernel_rfl⟩
instance : Clb Try.prog 58 := ⟨_, Try.func58, rfl, by kernel_rfl⟩
instance : Clb Try.prog 59 := ⟨_, Try.func59, rfl, by kernel_rfl⟩
instance : Clb Try.prog 60 := ⟨_, Try.func60, rfl, by kernel_rfl⟩
instance : Clb Try.prog 61 := ⟨_, Try.func61, rfl, by kernel_rfl⟩
instance : Clb Try.prog 62 := ⟨_, Try.func62, rfl, by kernel_rfl⟩
instance : Clb Try.prog 63 := ⟨_, Try.func63, rfl, by kernel_rfl⟩
instance : Clb Try.prog 64 := ⟨_, Try.func64, rfl, by kernel_rfl⟩
instance : Clb Try.prog 65 := ⟨_, Try.func65, rfl, by kernel_rfl⟩
instance : Clb Try.prog 66 := ⟨_, Try.func66, rfl, by kernel_rfl⟩
instance : Clb Try.prog 67 := ⟨_, Try.func67, rfl, by kernel_rfl⟩
instance : Clb Try.prog 68 := ⟨_, Try.func68, rfl, by kernel_rfl⟩
instance : Clb Try.prog 69 := ⟨_, Try.func69, rfl, by kernel_rfl⟩
instance : Clb Try.prog 70 := ⟨_, Try.func70, rfl, by kernel_rfl⟩
instance : Clb Try.prog 71 := ⟨_, Try.func71, rfl, by kernel_rfl⟩
instance : Clb Try.prog 72 := ⟨_, Try.func72, rfl, by kernel_rfl⟩
instance : Clb Try.prog 73 := ⟨_, Try.func73, rfl, by kernel_rfl⟩
instance : Clb Try.prog 74 := ⟨_, Try.func74, rfl, by kernel_rfl⟩
instance : Clb Try.prog 75 := ⟨_, Try.func75, rfl, by kernel_rfl⟩
instance : Clb Try.prog 76 := ⟨_, Try.func76, rfl, by kernel_rfl⟩
instance : Clb Try.prog 77 := ⟨_, Try.func77, rfl, by kernel_rfl⟩
instance : Clb Try.prog 78 := ⟨_, Try.func78, rfl, by kernel_rfl⟩
instance : Clb Try.prog 79 := ⟨_, Try.func79, rfl, by kernel_rfl⟩
instance : Clb Try.prog 80 := ⟨_, Try.func80, rfl, by kernel_rfl⟩
instance : Clb Try.prog 81 := ⟨_, Try.func81, rfl, by kernel_rfl⟩
instance : Clb Try.prog 82 := ⟨_, Try.func82, rfl, by kernel_rfl⟩
instance : Clb Try.prog 83 := ⟨_, Try.func83, rfl, by kernel_rfl⟩
instance : Clb Try.prog 84 := ⟨_, Try.func84, rfl, by kernel_rfl⟩
instance : Clb Try.prog 85 := ⟨_, Try.func85, rfl, by kernel_rfl⟩
instance : Clb Try.prog 86 := ⟨_, Try.func86, rfl, by kernel_rfl⟩
instance : Clb Try.prog 87 := ⟨_, Try.func87, rfl, by kernel_rfl⟩
instance : Clb Try.prog 88 := ⟨_, Try.func88, rfl, by kernel_rfl⟩
instance : Clb Try.prog 89 := ⟨_, Try.func89, rfl, by kernel_rfl⟩
instance : Clb Try.prog 90 := ⟨_, Try.func90, rfl, by kernel_rfl⟩
instance : Clb Try.prog 91 := ⟨_, Try.func91, rfl, by kernel_rfl⟩
instance : Clb Try.prog 92 := ⟨_, Try.func92, rfl, by kernel_rfl⟩
instance : Clb Try.prog 93 := ⟨_, Try.func93, rfl, by kernel_rfl⟩
instance : Clb Try.prog 94 := ⟨_, Try.func94, rfl, by kernel_rfl⟩
instance : Clb Try.prog 95 := ⟨_, Try.func95, rfl, by kernel_rfl⟩
instance : Clb Try.prog 96 := ⟨_, Try.func96, rfl, by kernel_rfl⟩
instance : Clb Try.prog 97 := ⟨_, Try.func97, rfl, by kernel_rfl⟩
instance : Clb Try.prog 98 := ⟨_, Try.func98, rfl, by kernel_rfl⟩
instance : Clb Try.prog 99 := ⟨_, Try.func99, rfl, by kernel_rfl⟩
instance : Clb Try.prog 100 := ⟨_, Try.func100, rfl, by kernel_rfl⟩
instance : Clb Try.prog 101 := ⟨_, Try.func101, rfl, by kernel_rfl⟩
instance : Clb Try.prog 102 := ⟨_, Try.func102, rfl, by kernel_rfl⟩
instance : Clb Try.prog 103 := ⟨_, Try.func103, rfl, by kernel_rfl⟩
instance : Clb Try.prog 104 := ⟨_, Try.func104, rfl, by kernel_rfl⟩
instance : Clb Try.prog 105 := ⟨_, Try.func105, rfl, by kernel_rfl⟩
instance : Clb Try.prog 106 := ⟨_, Try.func106, rfl, by kernel_rfl⟩
instance : Clb Try.prog 107 := ⟨_, Try.func107, rfl, by kernel_rfl⟩
instance : Clb Try.prog 108 := ⟨_, Try.func108, rfl, by kernel_rfl⟩
end Go.Proofs.Ytfcmjlbfoindaaa
