/- WHAT THE PROGRAM's TABLE SAYS of the types that its functions use. -/
import Derived.Test.YtemhcflaldeakaaSl
import Derived.Test.YtemhcflaldeakaaBase
namespace Go.Proofs.Ytemhcflaldeakaa
open Go.RowKit Go.Fp
instance : One Try.prog 2 := ⟨(mk_one (P := Try.prog) (by kernel_rfl) (by kernel_rfl)).out⟩
instance : One Try.prog 3 := ⟨(mk_one (P := Try.prog) (by kernel_rfl) (by kernel_rfl)).out⟩
instance : One Try.prog 4 := ⟨(mk_one (P := Try.prog) (by kernel_rfl) (by kernel_rfl)).out⟩
instance : One Try.prog 5 := ⟨(mk_one (P := Try.prog) (by kernel_rfl) (by kernel_rfl)).out⟩
instance : One Try.prog 25 := ⟨(mk_one (P := Try.prog) (by kernel_rfl) (by kernel_rfl)).out⟩
instance : One Try.prog 30 := ⟨(mk_one (P := Try.prog) (by kernel_rfl) (by kernel_rfl)).out⟩
instance : One Try.prog 31 := ⟨(mk_one (P := Try.prog) (by kernel_rfl) (by kernel_rfl)).out⟩
instance : One Try.prog 34 := ⟨(mk_one (P := Try.prog) (by kernel_rfl) (by kernel_rfl)).out⟩
instance : One Try.prog 37 := ⟨(mk_one (P := Try.prog) (by kernel_rfl) (by kernel_rfl)).out⟩
instance : One Try.prog 40 := ⟨(mk_one (P := Try.prog) (by kernel_rfl) (by kernel_rfl)).out⟩
instance : One Try.prog 62 := ⟨(mk_one (P := Try.prog) (by kernel_rfl) (by kernel_rfl)).out⟩
instance : One Try.prog 67 := ⟨(mk_one (P := Try.prog) (by kernel_rfl) (by kernel_rfl)).out⟩
instance : One Try.prog 70 := ⟨(mk_one (P := Try.prog) (by kernel_rfl) (by kernel_rfl)).out⟩
instance : One Try.prog 74 := ⟨(mk_one (P := Try.prog) (by kernel_rfl) (by kernel_rfl)).out⟩
instance : One Try.prog 115 := ⟨(mk_one (P := Try.prog) (by kernel_rfl) (by kernel_rfl)).out⟩
instance : One Try.prog 122 := ⟨(mk_one (P := Try.prog) (by kernel_rfl) (by kernel_rfl)).out⟩
instance : One Try.prog 136 := ⟨(mk_one (P := Try.prog) (by kernel_rfl) (by kernel_rfl)).out⟩
instance : One Try.prog 146 := ⟨(mk_one (P := Try.prog) (by kernel_rfl) (by kernel_rfl)).out⟩
instance : One Try.prog 151 := ⟨(mk_one (P := Try.prog) (by kernel_rfl) (by kernel_rfl)).out⟩
instance : Row Try.prog 23 4 := ⟨(mk_row (P := Try.prog) (by kernel_rfl) (by kernel_rfl)).out⟩
instance : Row Try.prog 24 32 := ⟨(mk_row (P := Try.prog) (by kernel_rfl) (by kernel_rfl)).out⟩
instance : Row Try.prog 26 4 := ⟨(mk_row (P := Try.prog) (by kernel_rfl) (by kernel_rfl)).out⟩
instance : Row Try.prog 29 6 := ⟨(mk_row (P := Try.prog) (by kernel_rfl) (by kernel_rfl)).out⟩
instance : Row Try.prog 39 41 := ⟨(mk_row (P := Try.prog) (by kernel_rfl) (by kernel_rfl)).out⟩
instance : Row Try.prog 45 6 := ⟨(mk_row (P := Try.prog) (by kernel_rfl) (by kernel_rfl)).out⟩
instance : Row Try.prog 46 6 := ⟨(mk_row (P := Try.prog) (by kernel_rfl) (by kernel_rfl)).out⟩
instance : Row Try.prog 58 2 := ⟨(mk_row (P := Try.prog) (by kernel_rfl) (by kernel_rfl)).out⟩
instance : Row Try.prog 59 32 := ⟨(mk_row (P := Try.prog) (by kernel_rfl) (by kernel_rfl)).out⟩
instance : Row Try.prog 71 8 := ⟨(mk_row (P := Try.prog) (by kernel_rfl) (by kernel_rfl)).out⟩
instance : Row Try.prog 73 17 := ⟨(mk_row (P := Try.prog) (by kernel_rfl) (by kernel_rfl)).out⟩
instance : Row Try.prog 80 37 := ⟨(mk_row (P := Try.prog) (by kernel_rfl) (by kernel_rfl)).out⟩
instance : Row Try.prog 84 16 := ⟨(mk_row (P := Try.prog) (by kernel_rfl) (by kernel_rfl)).out⟩
instance : Row Try.prog 95 2 := ⟨(mk_row (P := Try.prog) (by kernel_rfl) (by kernel_rfl)).out⟩
instance : Row Try.prog 97 5 := ⟨(mk_row (P := Try.prog) (by kernel_rfl) (by kernel_rfl)).out⟩
instance : Row Try.prog 99 7 := ⟨(mk_row (P := Try.prog) (by kernel_rfl) (by kernel_rfl)).out⟩
instance : Row Try.prog 102 2 := ⟨(mk_row (P := Try.prog) (by kernel_rfl) (by kernel_rfl)).out⟩
instance : Row Try.prog 109 16 := ⟨(mk_row (P := Try.prog) (by kernel_rfl) (by kernel_rfl)).out⟩
instance : Row Try.prog 113 4 := ⟨(mk_row (P := Try.prog) (by kernel_rfl) (by kernel_rfl)).out⟩
instance : Row Try.prog 120 64 := ⟨(mk_row (P := Try.prog) (by kernel_rfl) (by kernel_rfl)).out⟩
instance : Row Try.prog 133 2 := ⟨(mk_row (P := Try.prog) (by kernel_rfl) (by kernel_rfl)).out⟩
instance : Row Try.prog 137 8 := ⟨(mk_row (P := Try.prog) (by kernel_rfl) (by kernel_rfl)).out⟩
instance : Row Try.prog 139 64 := ⟨(mk_row (P := Try.prog) (by kernel_rfl) (by kernel_rfl)).out⟩
instance : Row Try.prog 143 2 := ⟨(mk_row (P := Try.prog) (by kernel_rfl) (by kernel_rfl)).out⟩
instance : Row Try.prog 149 8 := ⟨(mk_row (P := Try.prog) (by kernel_rfl) (by kernel_rfl)).out⟩
instance : Row Try.prog 154 11 := ⟨(mk_row (P := Try.prog) (by kernel_rfl) (by kernel_rfl)).out⟩
instance : Zero Try.prog 3 [.int .i64 0] := mk_zero (by kernel_rfl)
instance : Zero Try.prog 5 [.int .u8 0] := mk_zero (by kernel_rfl)
instance : Zero Try.prog 24 [.int .u8 0, .int .u8 0, .int .u8 0, .int .u8 0, .int .u8 0, .int .u8 0, .int .u8 0, .int .u8 0, .int .u8 0, .int .u8 0, .int .u8 0, .int .u8 0, .int .u8 0, .int .u8 0, .int .u8 0, .int .u8 0, .int .u8 0, .int .u8 0, .int .u8 0, .int .u8 0, .int .u8 0, .int .u8 0, .int .u8 0, .int .u8 0, .int .u8 0, .int .u8 0, .int .u8 0, .int .u8 0, .int .u8 0, .int .u8 0, .int .u8 0, .int .u8 0] := mk_zero (by kernel_rfl)
instance : Zero Try.prog 26 [.int .i64 0, .int .i64 0, .int .i64 0, .int .i64 0] := mk_zero (by kernel_rfl)
instance : Zero Try.prog 29 [.int .i64 0, .int .i64 0, .int .i64 0, .int .i64 0, .int .i64 0, .int .i64 0] := mk_zero (by kernel_rfl)
instance : Zero Try.prog 39 [.int .i64 0, .int .i64 0, .int .i64 0, .int .u8 0, .int .u8 0, .int .u8 0, .int .u8 0, .int .u8 0, .int .u8 0, .int .u8 0, .int .u8 0, .int .u8 0, .int .u8 0, .int .u8 0, .int .u8 0, .int .u8 0, .int .u8 0, .int .u8 0, .int .u8 0, .int .u8 0, .int .u8 0, .int .u8 0, .int .u8 0, .int .u8 0, .int .u8 0, .int .u8 0, .int .u8 0, .int .u8 0, .int .u8 0, .int .u8 0, .int .u8 0, .int .u8 0, .int .u8 0, .int .u8 0, .int .u8 0, .slice none 0 0, .int .u8 0, .int .u64 0, .int .u64 0, .int .i64 0, .int .u8 0] := mk_zero (by kernel_rfl)
instance : Zero Try.prog 45 [.int .i64 0, .int .i64 0, .int .u64 0, .int .u64 0, .int .i64 0, .slice none 0 0] := mk_zero (by kernel_rfl)
instance : Zero Try.prog 46 [.int .i64 0, .int .i64 0, .int .u64 0, .int .u64 0, .int .i64 0, .slice none 0 0] := mk_zero (by kernel_rfl)
instance : Zero Try.prog 58 [.int .u8 0, .slice none 0 0] := mk_zero (by kernel_rfl)
instance : Zero Try.prog 59 [.int .u8 0, .int .u8 0, .int .u8 0, .int .u8 0, .int .u8 0, .int .u8 0, .int .u8 0, .int .u8 0, .int .u8 0, .int .u8 0, .int .u8 0, .int .u8 0, .int .u8 0, .int .u8 0, .int .u8 0, .int .u8 0, .int .u8 0, .int .u8 0, .int .u8 0, .int .u8 0, .int .u8 0, .int .u8 0, .int .u8 0, .int .u8 0, .int .u8 0, .int .u8 0, .int .u8 0, .int .u8 0, .int .u8 0, .int .u8 0, .int .u8 0, .int .u8 0] := mk_zero (by kernel_rfl)
instance : Zero Try.prog 73 [.int .i64 0, .int .i64 0, .int .i64 0, .int .i64 0, .int .i64 0, .int .i64 0, .int .i64 0, .pointer none, .pointer none, .pointer none, .pointer none, .pointer none, .pointer none, .pointer none, .pointer none, .pointer none, .int .i64 0] := mk_zero (by kernel_rfl)
instance : Zero Try.prog 80 [.int .u8 0, .int .u8 0, .int .u8 0, .int .u8 0, .int .u8 0, .int .u8 0, .int .u8 0, .int .u8 0, .int .u8 0, .int .u8 0, .int .u8 0, .int .u8 0, .int .u8 0, .int .u8 0, .int .u8 0, .int .u8 0, .int .u8 0, .int .u8 0, .int .u8 0, .int .u8 0, .int .u8 0, .int .u8 0, .int .u8 0, .int .u8 0, .int .u8 0, .int .u8 0, .int .u8 0, .int .u8 0, .int .u8 0, .int .u8 0, .int .u8 0, .int .u8 0, .pointer none, .pointer none, .int .i64 0, .bool false, .bool false] := mk_zero (by kernel_rfl)
instance : Zero Try.prog 84 [.int .u8 0, .int .u8 0, .int .u8 0, .int .u8 0, .int .u8 0, .int .u8 0, .int .u8 0, .int .u8 0, .int .u8 0, .int .u8 0, .int .u8 0, .int .u8 0, .int .u8 0, .int .u8 0, .int .u8 0, .int .u8 0] := mk_zero (by kernel_rfl)
instance : Zero Try.prog 95 [.int .u64 0, .int .u64 0] := mk_zero (by kernel_rfl)
instance : Zero Try.prog 97 [.int .i64 0, .int .u64 0, .int .u64 0, .int .u64 0, .bool false] := mk_zero (by kernel_rfl)
instance : Zero Try.prog 99 [.int .i64 0, .int .i64 0, .int .i64 0, .int .i64 0, .int .i64 0, .int .i64 0, .int .i64 0] := mk_zero (by kernel_rfl)
instance : Zero Try.prog 102 [.slice none 0 0, .bool false] := mk_zero (by kernel_rfl)
instance : Zero Try.prog 109 [.int .u8 0, .int .u8 0, .int .u8 0, .int .u8 0, .int .u8 0, .int .u8 0, .int .u8 0, .int .u8 0, .int .u8 0, .int .u8 0, .int .u8 0, .int .u8 0, .int .u8 0, .int .u8 0, .int .u8 0, .int .u8 0] := mk_zero (by kernel_rfl)
instance : Zero Try.prog 113 [.int .i64 0, .int .i64 0, .int .i64 0, .int .i64 0] := mk_zero (by kernel_rfl)
instance : Zero Try.prog 120 [.int .u8 0, .int .u8 0, .int .u8 0, .int .u8 0, .int .u8 0, .int .u8 0, .int .u8 0, .int .u8 0, .int .u8 0, .int .u8 0, .int .u8 0, .int .u8 0, .int .u8 0, .int .u8 0, .int .u8 0, .int .u8 0, .int .u8 0, .int .u8 0, .int .u8 0, .int .u8 0, .int .u8 0, .int .u8 0, .int .u8 0, .int .u8 0, .int .u8 0, .int .u8 0, .int .u8 0, .int .u8 0, .int .u8 0, .int .u8 0, .int .u8 0, .int .u8 0, .int .u8 0, .int .u8 0, .int .u8 0, .int .u8 0, .int .u8 0, .int .u8 0, .int .u8 0, .int .u8 0, .int .u8 0, .int .u8 0, .int .u8 0, .int .u8 0, .int .u8 0, .int .u8 0, .int .u8 0, .int .u8 0, .int .u8 0, .int .u8 0, .int .u8 0, .int .u8 0, .int .u8 0, .int .u8 0, .int .u8 0, .int .u8 0, .int .u8 0, .int .u8 0, .int .u8 0, .int .u8 0, .int .u8 0, .int .u8 0, .int .u8 0, .int .u8 0] := mk_zero (by kernel_rfl)
instance : Zero Try.prog 133 [.slice none 0 0, .bool false] := mk_zero (by kernel_rfl)
instance : Zero Try.prog 137 [.int .u32 0, .int .u32 0, .int .u32 0, .int .u32 0, .int .u32 0, .int .u32 0, .int .u32 0, .int .u32 0] := mk_zero (by kernel_rfl)
instance : Zero Try.prog 139 [.int .u32 0, .int .u32 0, .int .u32 0, .int .u32 0, .int .u32 0, .int .u32 0, .int .u32 0, .int .u32 0, .int .u32 0, .int .u32 0, .int .u32 0, .int .u32 0, .int .u32 0, .int .u32 0, .int .u32 0, .int .u32 0, .int .u32 0, .int .u32 0, .int .u32 0, .int .u32 0, .int .u32 0, .int .u32 0, .int .u32 0, .int .u32 0, .int .u32 0, .int .u32 0, .int .u32 0, .int .u32 0, .int .u32 0, .int .u32 0, .int .u32 0, .int .u32 0, .int .u32 0, .int .u32 0, .int .u32 0, .int .u32 0, .int .u32 0, .int .u32 0, .int .u32 0, .int .u32 0, .int .u32 0, .int .u32 0, .int .u32 0, .int .u32 0, .int .u32 0, .int .u32 0, .int .u32 0, .int .u32 0, .int .u32 0, .int .u32 0, .int .u32 0, .int .u32 0, .int .u32 0, .int .u32 0, .int .u32 0, .int .u32 0, .int .u32 0, .int .u32 0, .int .u32 0, .int .u32 0, .int .u32 0, .int .u32 0, .int .u32 0, .int .u32 0] := mk_zero (by kernel_rfl)
instance : Zero Try.prog 143 [.slice none 0 0, .int .i64 0] := mk_zero (by kernel_rfl)
instance : Zero Try.prog 149 [.int .u8 0, .int .u8 0, .int .u8 0, .int .u8 0, .int .u8 0, .int .u8 0, .int .u8 0, .int .u8 0] := mk_zero (by kernel_rfl)
instance : Zero Try.prog 154 [.int .u32 0, .int .u32 0, .int .u32 0, .int .u32 0, .int .u32 0, .int .u32 0, .int .u32 0, .int .u32 0, .slice none 0 0, .int .u64 0, .int .i64 0] := mk_zero (by kernel_rfl)
instance : Fld Try.prog 23 0 0 3 := mk_fld (n := 0) (by kernel_rfl)
instance : Fld Try.prog 23 1 1 3 := mk_fld (n := 0) (by kernel_rfl)
instance : Fld Try.prog 23 2 2 3 := mk_fld (n := 0) (by kernel_rfl)
instance : Fld Try.prog 23 3 3 3 := mk_fld (n := 0) (by kernel_rfl)
instance : Fld Try.prog 26 0 0 3 := mk_fld (n := 0) (by kernel_rfl)
instance : Fld Try.prog 26 1 1 3 := mk_fld (n := 0) (by kernel_rfl)
instance : Fld Try.prog 26 2 2 3 := mk_fld (n := 0) (by kernel_rfl)
instance : Fld Try.prog 26 3 3 3 := mk_fld (n := 0) (by kernel_rfl)
instance : Fld Try.prog 29 0 0 3 := mk_fld (n := 0) (by kernel_rfl)
instance : Fld Try.prog 29 1 1 3 := mk_fld (n := 0) (by kernel_rfl)
instance : Fld Try.prog 29 2 2 26 := mk_fld (n := 3) (by kernel_rfl)
instance : Fld Try.prog 39 0 0 3 := mk_fld (n := 0) (by kernel_rfl)
instance : Fld Try.prog 39 4 35 37 := mk_fld (n := 0) (by kernel_rfl)
instance : Fld Try.prog 39 9 40 5 := mk_fld (n := 0) (by kernel_rfl)
instance : Fld Try.prog 45 0 0 3 := mk_fld (n := 0) (by kernel_rfl)
instance : Fld Try.prog 45 1 1 3 := mk_fld (n := 0) (by kernel_rfl)
instance : Fld Try.prog 45 2 2 34 := mk_fld (n := 0) (by kernel_rfl)
instance : Fld Try.prog 45 3 3 34 := mk_fld (n := 0) (by kernel_rfl)
instance : Fld Try.prog 45 4 4 3 := mk_fld (n := 0) (by kernel_rfl)
instance : Fld Try.prog 45 5 5 37 := mk_fld (n := 0) (by kernel_rfl)
instance : Fld Try.prog 46 0 0 3 := mk_fld (n := 0) (by kernel_rfl)
instance : Fld Try.prog 46 1 1 3 := mk_fld (n := 0) (by kernel_rfl)
instance : Fld Try.prog 46 2 2 34 := mk_fld (n := 0) (by kernel_rfl)
instance : Fld Try.prog 46 3 3 34 := mk_fld (n := 0) (by kernel_rfl)
instance : Fld Try.prog 46 4 4 3 := mk_fld (n := 0) (by kernel_rfl)
instance : Fld Try.prog 46 5 5 37 := mk_fld (n := 0) (by kernel_rfl)
instance : Fld Try.prog 58 0 0 5 := mk_fld (n := 0) (by kernel_rfl)
instance : Fld Try.prog 73 0 0 3 := mk_fld (n := 0) (by kernel_rfl)
instance : Fld Try.prog 73 1 1 29 := mk_fld (n := 5) (by kernel_rfl)
instance : Fld Try.prog 73 2 7 67 := mk_fld (n := 0) (by kernel_rfl)
instance : Fld Try.prog 73 3 8 71 := mk_fld (n := 7) (by kernel_rfl)
instance : Fld Try.prog 73 4 16 2 := mk_fld (n := 0) (by kernel_rfl)
instance : Fld Try.prog 80 0 0 59 := mk_fld (n := 31) (by kernel_rfl)
instance : Fld Try.prog 80 1 32 74 := mk_fld (n := 0) (by kernel_rfl)
instance : Fld Try.prog 80 2 33 62 := mk_fld (n := 0) (by kernel_rfl)
instance : Fld Try.prog 80 3 34 2 := mk_fld (n := 0) (by kernel_rfl)
instance : Fld Try.prog 80 4 35 4 := mk_fld (n := 0) (by kernel_rfl)
instance : Fld Try.prog 80 5 36 4 := mk_fld (n := 0) (by kernel_rfl)
instance : Fld Try.prog 95 0 0 34 := mk_fld (n := 0) (by kernel_rfl)
instance : Fld Try.prog 95 1 1 34 := mk_fld (n := 0) (by kernel_rfl)
instance : Fld Try.prog 97 0 0 3 := mk_fld (n := 0) (by kernel_rfl)
instance : Fld Try.prog 97 1 1 34 := mk_fld (n := 0) (by kernel_rfl)
instance : Fld Try.prog 97 2 2 34 := mk_fld (n := 0) (by kernel_rfl)
instance : Fld Try.prog 97 3 3 34 := mk_fld (n := 0) (by kernel_rfl)
instance : Fld Try.prog 97 4 4 4 := mk_fld (n := 0) (by kernel_rfl)
instance : Fld Try.prog 99 0 0 26 := mk_fld (n := 3) (by kernel_rfl)
instance : Fld Try.prog 99 1 4 3 := mk_fld (n := 0) (by kernel_rfl)
instance : Fld Try.prog 99 2 5 3 := mk_fld (n := 0) (by kernel_rfl)
instance : Fld Try.prog 102 0 0 37 := mk_fld (n := 0) (by kernel_rfl)
instance : Fld Try.prog 102 1 1 4 := mk_fld (n := 0) (by kernel_rfl)
instance : Fld Try.prog 133 0 0 37 := mk_fld (n := 0) (by kernel_rfl)
instance : Fld Try.prog 133 1 1 4 := mk_fld (n := 0) (by kernel_rfl)
instance : Fld Try.prog 143 0 0 37 := mk_fld (n := 0) (by kernel_rfl)
instance : Fld Try.prog 143 1 1 31 := mk_fld (n := 0) (by kernel_rfl)
instance : Fld Try.prog 154 0 0 137 := mk_fld (n := 7) (by kernel_rfl)
instance : Fld Try.prog 154 1 8 37 := mk_fld (n := 0) (by kernel_rfl)
instance : Fld Try.prog 154 2 9 34 := mk_fld (n := 0) (by kernel_rfl)
instance : Fld Try.prog 154 3 10 3 := mk_fld (n := 0) (by kernel_rfl)
instance : Slc Try.prog 25 39 41 := ⟨Try.underlying25, by kernel_rfl⟩
instance : Slc Try.prog 37 5 1 := ⟨Try.underlying37, by kernel_rfl⟩
instance : Slc Try.prog 40 3 1 := ⟨Try.underlying40, by kernel_rfl⟩
instance : Byt Try.prog 3 8 := ⟨by kernel_rfl⟩
instance : Byt Try.prog 5 1 := ⟨by kernel_rfl⟩
instance : Byt Try.prog 39 120 := ⟨by kernel_rfl⟩
instance : Arr Try.prog 24 5 32 1 := ⟨Try.underlying24, by kernel_rfl⟩
instance : Arr Try.prog 59 5 32 1 := ⟨Try.underlying59, by kernel_rfl⟩
instance : Arr Try.prog 71 70 8 1 := ⟨Try.underlying71, by kernel_rfl⟩
instance : Arr Try.prog 84 5 16 1 := ⟨Try.underlying84, by kernel_rfl⟩
instance : Arr Try.prog 109 5 16 1 := ⟨Try.underlying109, by kernel_rfl⟩
instance : Arr Try.prog 113 3 4 1 := ⟨Try.underlying113, by kernel_rfl⟩
instance : Arr Try.prog 120 5 64 1 := ⟨Try.underlying120, by kernel_rfl⟩
instance : Arr Try.prog 137 136 8 1 := ⟨Try.underlying137, by kernel_rfl⟩
instance : Arr Try.prog 139 136 64 1 := ⟨Try.underlying139, by kernel_rfl⟩
instance : Arr Try.prog 149 5 8 1 := ⟨Try.underlying149, by kernel_rfl⟩
instance : Und Try.prog 2 (.int .i64) := ⟨Try.underlying2⟩
instance : Und Try.prog 3 (.int .i64) := ⟨Try.underlying3⟩
instance : Und Try.prog 4 (.bool) := ⟨Try.underlying4⟩
instance : Und Try.prog 5 (.int .u8) := ⟨Try.underlying5⟩
instance : Und Try.prog 24 (.array 32 5) := ⟨Try.underlying24⟩
instance : Und Try.prog 25 (.slice 39) := ⟨Try.underlying25⟩
instance : Und Try.prog 30 (.pointer 73) := ⟨Try.underlying30⟩
instance : Und Try.prog 31 (.int .i64) := ⟨Try.underlying31⟩
instance : Und Try.prog 34 (.int .u64) := ⟨Try.underlying34⟩
instance : Und Try.prog 37 (.slice 5) := ⟨Try.underlying37⟩
instance : Und Try.prog 40 (.slice 3) := ⟨Try.underlying40⟩
instance : Und Try.prog 59 (.array 32 5) := ⟨Try.underlying59⟩
instance : Und Try.prog 62 (.pointer 99) := ⟨Try.underlying62⟩
instance : Und Try.prog 67 (.pointer 95) := ⟨Try.underlying67⟩
instance : Und Try.prog 70 (.pointer 80) := ⟨Try.underlying70⟩
instance : Und Try.prog 71 (.array 8 70) := ⟨Try.underlying71⟩
instance : Und Try.prog 74 (.pointer 97) := ⟨Try.underlying74⟩
instance : Und Try.prog 84 (.array 16 5) := ⟨Try.underlying84⟩
instance : Und Try.prog 109 (.array 16 5) := ⟨Try.underlying109⟩
instance : Und Try.prog 113 (.array 4 3) := ⟨Try.underlying113⟩
instance : Und Try.prog 115 (.pointer 133) := ⟨Try.underlying115⟩
instance : Und Try.prog 120 (.array 64 5) := ⟨Try.underlying120⟩
instance : Und Try.prog 122 (.pointer 143) := ⟨Try.underlying122⟩
instance : Und Try.prog 136 (.int .u32) := ⟨Try.underlying136⟩
instance : Und Try.prog 137 (.array 8 136) := ⟨Try.underlying137⟩
instance : Und Try.prog 139 (.array 64 136) := ⟨Try.underlying139⟩
instance : Und Try.prog 146 (.pointer 154) := ⟨Try.underlying146⟩
instance : Und Try.prog 149 (.array 8 5) := ⟨Try.underlying149⟩
instance : Und Try.prog 151 (.int .u64) := ⟨Try.underlying151⟩
instance : Plc Try.prog 26 [(0, 1), (1, 1), (2, 1), (3, 1)] := mk_plc (by kernel_rfl)
instance : Plc Try.prog 29 [(0, 1), (1, 1), (2, 4)] := mk_plc (by kernel_rfl)
instance : Plc Try.prog 45 [(0, 1), (1, 1), (2, 1), (3, 1), (4, 1), (5, 1)] := mk_plc (by kernel_rfl)
instance : Plc Try.prog 46 [(0, 1), (1, 1), (2, 1), (3, 1), (4, 1), (5, 1)] := mk_plc (by kernel_rfl)
instance : Plc Try.prog 58 [(0, 1), (1, 1)] := mk_plc (by kernel_rfl)
instance : Plc Try.prog 59 [(0, 1), (1, 1), (2, 1), (3, 1), (4, 1), (5, 1), (6, 1), (7, 1), (8, 1), (9, 1), (10, 1), (11, 1), (12, 1), (13, 1), (14, 1), (15, 1), (16, 1), (17, 1), (18, 1), (19, 1), (20, 1), (21, 1), (22, 1), (23, 1), (24, 1), (25, 1), (26, 1), (27, 1), (28, 1), (29, 1), (30, 1), (31, 1)] := mk_plca Try.underlying59 (by kernel_rfl : _ = some 1) rfl
instance : Plc Try.prog 73 [(0, 1), (1, 6), (7, 1), (8, 8), (16, 1)] := mk_plc (by kernel_rfl)
instance : Plc Try.prog 80 [(0, 32), (32, 1), (33, 1), (34, 1), (35, 1), (36, 1)] := mk_plc (by kernel_rfl)
instance : Plc Try.prog 95 [(0, 1), (1, 1)] := mk_plc (by kernel_rfl)
instance : Plc Try.prog 97 [(0, 1), (1, 1), (2, 1), (3, 1), (4, 1)] := mk_plc (by kernel_rfl)
instance : Plc Try.prog 99 [(0, 4), (4, 1), (5, 1), (6, 1)] := mk_plc (by kernel_rfl)
instance : Plc Try.prog 102 [(0, 1), (1, 1)] := mk_plc (by kernel_rfl)
instance : Plc Try.prog 113 [(0, 1), (1, 1), (2, 1), (3, 1)] := mk_plca Try.underlying113 (by kernel_rfl : _ = some 1) rfl
instance : Plc Try.prog 133 [(0, 1), (1, 1)] := mk_plc (by kernel_rfl)
instance : Plc Try.prog 137 [(0, 1), (1, 1), (2, 1), (3, 1), (4, 1), (5, 1), (6, 1), (7, 1)] := mk_plca Try.underlying137 (by kernel_rfl : _ = some 1) rfl
instance : Plc Try.prog 139 [(0, 1), (1, 1), (2, 1), (3, 1), (4, 1), (5, 1), (6, 1), (7, 1), (8, 1), (9, 1), (10, 1), (11, 1), (12, 1), (13, 1), (14, 1), (15, 1), (16, 1), (17, 1), (18, 1), (19, 1), (20, 1), (21, 1), (22, 1), (23, 1), (24, 1), (25, 1), (26, 1), (27, 1), (28, 1), (29, 1), (30, 1), (31, 1), (32, 1), (33, 1), (34, 1), (35, 1), (36, 1), (37, 1), (38, 1), (39, 1), (40, 1), (41, 1), (42, 1), (43, 1), (44, 1), (45, 1), (46, 1), (47, 1), (48, 1), (49, 1), (50, 1), (51, 1), (52, 1), (53, 1), (54, 1), (55, 1), (56, 1), (57, 1), (58, 1), (59, 1), (60, 1), (61, 1), (62, 1), (63, 1)] := mk_plca Try.underlying139 (by kernel_rfl : _ = some 1) rfl
instance : Plc Try.prog 143 [(0, 1), (1, 1)] := mk_plc (by kernel_rfl)
instance : Plc Try.prog 154 [(0, 8), (8, 1), (9, 1), (10, 1)] := mk_plc (by kernel_rfl)
instance : Clb Try.prog 5 := ⟨_, Try.func5, rfl, by kernel_rfl⟩
instance : Clb Try.prog 6 := ⟨_, Try.func6, rfl, by kernel_rfl⟩
instance : Clb Try.prog 7 := ⟨_, Try.func7, rfl, by kernel_rfl⟩
instance : Clb Try.prog 8 := ⟨_, Try.func8, rfl, by kernel_rfl⟩
instance : Clb Try.prog 9 := ⟨_, Try.func9, rfl, by kernel_rfl⟩
instance : Clb Try.prog 10 := ⟨_, Try.func10, rfl, by kernel_rfl⟩
instance : Clb Try.prog 11 := ⟨_, Try.func11, rfl, by kernel_rfl⟩
instance : Clb Try.prog 12 := ⟨_, Try.func12, rfl, by kernel_rfl⟩
instance : Clb Try.prog 13 := ⟨_, Try.func13, rfl, by kernel_rfl⟩
instance : Clb Try.prog 14 := ⟨_, Try.func14, rfl, by kernel_rfl⟩
instance : Clb Try.prog 15 := ⟨_, Try.func15, rfl, by kernel_rfl⟩
instance : Clb Try.prog 16 := ⟨_, Try.func16, rfl, by kernel_rfl⟩
instance : Clb Try.prog 17 := ⟨_, Try.func17, rfl, by kernel_rfl⟩
instance : Clb Try.prog 18 := ⟨_, Try.func18, rfl, by kernel_rfl⟩
instance : Clb Try.prog 19 := ⟨_, Try.func19, rfl, by kernel_rfl⟩
instance : Clb Try.prog 20 := ⟨_, Try.func20, rfl, by kernel_rfl⟩
instance : Clb Try.prog 21 := ⟨_, Try.func21, rfl, by kernel_rfl⟩
instance : Clb Try.prog 22 := ⟨_, Try.func22, rfl, by kernel_rfl⟩
instance : Clb Try.prog 23 := ⟨_, Try.func23, rfl, by kernel_rfl⟩
instance : Clb Try.prog 24 := ⟨_, Try.func24, rfl, by kernel_rfl⟩
instance : Clb Try.prog 25 := ⟨_, Try.func25, rfl, by kernel_rfl⟩
instance : Clb Try.prog 26 := ⟨_, Try.func26, rfl, by kernel_rfl⟩
instance : Clb Try.prog 27 := ⟨_, Try.func27, rfl, by kernel_rfl⟩
instance : Clb Try.prog 28 := ⟨_, Try.func28, rfl, by kernel_rfl⟩
instance : Clb Try.prog 29 := ⟨_, Try.func29, rfl, by kernel_rfl⟩
instance : Clb Try.prog 30 := ⟨_, Try.func30, rfl, by kernel_rfl⟩
instance : Clb Try.prog 31 := ⟨_, Try.func31, rfl, by kernel_rfl⟩
instance : Clb Try.prog 32 := ⟨_, Try.func32, rfl, by kernel_rfl⟩
instance : Clb Try.prog 33 := ⟨_, Try.func33, rfl, by kernel_rfl⟩
instance : Clb Try.prog 34 := ⟨_, Try.func34, rfl, by kernel_rfl⟩
instance : Clb Try.prog 35 := ⟨_, Try.func35, rfl, by kernel_rfl⟩
instance : Clb Try.prog 36 := ⟨_, Try.func36, rfl, by kernel_rfl⟩
instance : Clb Try.prog 37 := ⟨_, Try.func37, rfl, by kernel_rfl⟩
instance : Clb Try.prog 38 := ⟨_, Try.func38, rfl, by kernel_rfl⟩
instance : Clb Try.prog 39 := ⟨_, Try.func39, rfl, by kernel_rfl⟩
instance : Clb Try.prog 40 := ⟨_, Try.func40, rfl, by kernel_rfl⟩
instance : Clb Try.prog 41 := ⟨_, Try.func41, rfl, by kernel_rfl⟩
instance : Clb Try.prog 42 := ⟨_, Try.func42, rfl, by kernel_rfl⟩
instance : Clb Try.prog 43 := ⟨_, Try.func43, rfl, by kernel_rfl⟩
instance : Clb Try.prog 44 := ⟨_, Try.func44, rfl, by kernel_rfl⟩
instance : Clb Try.prog 45 := ⟨_, Try.func45, rfl, by kernel_rfl⟩
instance : Clb Try.prog 46 := ⟨_, Try.func46, rfl, by kernel_rfl⟩
instance : Clb Try.prog 47 := ⟨_, Try.func47, rfl, by kernel_rfl⟩
instance : Clb Try.prog 48 := ⟨_, Try.func48, rfl, by kernel_rfl⟩
instance : Clb Try.prog 49 := ⟨_, Try.func49, rfl, by kernel_rfl⟩
instance : Clb Try.prog 50 := ⟨_, Try.func50, rfl, by kernel_rfl⟩
instance : Clb Try.prog 51 := ⟨_, Try.func51, rfl, by kernel_rfl⟩
instance : Clb Try.prog 52 := ⟨_, Try.func52, rfl, by kernel_rfl⟩
instance : Clb Try.prog 53 := ⟨_, Try.func53, rfl, by kernel_rfl⟩
instance : Clb Try.prog 54 := ⟨_, Try.func54, rfl, by kernel_rfl⟩
instance : Clb Try.prog 55 := ⟨_, Try.func55, rfl, by kernel_rfl⟩
instance : Clb Try.prog 56 := ⟨_, Try.func56, rfl, by kernel_rfl⟩
instance : Clb Try.prog 57 := ⟨_, Try.func57, rfl, by kernel_rfl⟩
instance : Clb Try.prog 58 := ⟨_, Try.func58, rfl, by kernel_rfl⟩
instance : Clb Try.prog 59 := ⟨_, Try.func59, rfl, by kernel_rfl⟩
instance : Clb Try.prog 60 := ⟨_, Try.func60, rfl, by kernel_rfl⟩
instance : Clb Try.prog 61 := ⟨_, Try.func61, rfl, by kernel_rfl⟩
instance : Clb Try.prog 62 := ⟨_, Try.func62, rfl, by kernel_rfl⟩
instance : Clb Try.prog 63 := ⟨_, Try.func63, rfl, by kernel_rfl⟩
instance : Clb Try.prog 64 := ⟨_, Try.func64, rfl, by kernel_rfl⟩
instance : Clb Try.prog 65 := ⟨_, Try.func65, rfl, by kernel_rfl⟩
instance : Clb Try.prog 66 := ⟨_, Try.func66, rfl, by kernel_rfl⟩
instance : Clb Try.prog 67 := ⟨_, Try.func67, rfl, by kernel_rfl⟩
instance : Clb Try.prog 68 := ⟨_, Try.func68, rfl, by kernel_rfl⟩
instance : Clb Try.prog 69 := ⟨_, Try.func69, rfl, by kernel_rfl⟩
instance : Clb Try.prog 70 := ⟨_, Try.func70, rfl, by kernel_rfl⟩
instance : Clb Try.prog 71 := ⟨_, Try.func71, rfl, by kernel_rfl⟩
instance : Clb Try.prog 72 := ⟨_, Try.func72, rfl, by kernel_rfl⟩
instance : Clb Try.prog 73 := ⟨_, Try.func73, rfl, by kernel_rfl⟩
instance : Clb Try.prog 74 := ⟨_, Try.func74, rfl, by kernel_rfl⟩
instance : Clb Try.prog 75 := ⟨_, Try.func75, rfl, by kernel_rfl⟩
instance : Clb Try.prog 76 := ⟨_, Try.func76, rfl, by kernel_rfl⟩
instance : Clb Try.prog 77 := ⟨_, Try.func77, rfl, by kernel_rfl⟩
instance : Clb Try.prog 78 := ⟨_, Try.func78, rfl, by kernel_rfl⟩
instance : Clb Try.prog 79 := ⟨_, Try.func79, rfl, by kernel_rfl⟩
instance : Clb Try.prog 80 := ⟨_, Try.func80, rfl, by kernel_rfl⟩
instance : Clb Try.prog 81 := ⟨_, Try.func81, rfl, by kernel_rfl⟩
instance : Clb Try.prog 82 := ⟨_, Try.func82, rfl, by kernel_rfl⟩
instance : Clb Try.prog 83 := ⟨_, Try.func83, rfl, by kernel_rfl⟩
instance : Clb Try.prog 84 := ⟨_, Try.func84, rfl, by kernel_rfl⟩
instance : Clb Try.prog 85 := ⟨_, Try.func85, rfl, by kernel_rfl⟩
end Go.Proofs.Ytemhcflaldeakaa
