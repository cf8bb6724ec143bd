/- WHAT THE PROGRAM's TABLE SAYS of the types that its functions use. -/
import Derived.Test.YthjdhmnmlblpfaaRSl
import Derived.Test.YthjdhmnmlblpfaaRBase
namespace Go.Proofs.YthjdhmnmlblpfaaR
open Go.RowKit Go.Fp
instance : One Try.prog 3 := ⟨(mk_one (P := Try.prog) (by kernel_rfl) (by kernel_rfl)).out⟩
instance : One Try.prog 4 := ⟨(mk_one (P := Try.prog) (by kernel_rfl) (by kernel_rfl)).out⟩
instance : One Try.prog 5 := ⟨(mk_one (P := Try.prog) (by kernel_rfl) (by kernel_rfl)).out⟩
instance : One Try.prog 9 := ⟨(mk_one (P := Try.prog) (by kernel_rfl) (by kernel_rfl)).out⟩
instance : One Try.prog 23 := ⟨(mk_one (P := Try.prog) (by kernel_rfl) (by kernel_rfl)).out⟩
instance : One Try.prog 24 := ⟨(mk_one (P := Try.prog) (by kernel_rfl) (by kernel_rfl)).out⟩
instance : One Try.prog 27 := ⟨(mk_one (P := Try.prog) (by kernel_rfl) (by kernel_rfl)).out⟩
instance : One Try.prog 38 := ⟨(mk_one (P := Try.prog) (by kernel_rfl) (by kernel_rfl)).out⟩
instance : One Try.prog 44 := ⟨(mk_one (P := Try.prog) (by kernel_rfl) (by kernel_rfl)).out⟩
instance : One Try.prog 63 := ⟨(mk_one (P := Try.prog) (by kernel_rfl) (by kernel_rfl)).out⟩
instance : One Try.prog 68 := ⟨(mk_one (P := Try.prog) (by kernel_rfl) (by kernel_rfl)).out⟩
instance : One Try.prog 82 := ⟨(mk_one (P := Try.prog) (by kernel_rfl) (by kernel_rfl)).out⟩
instance : One Try.prog 92 := ⟨(mk_one (P := Try.prog) (by kernel_rfl) (by kernel_rfl)).out⟩
instance : One Try.prog 96 := ⟨(mk_one (P := Try.prog) (by kernel_rfl) (by kernel_rfl)).out⟩
instance : One Try.prog 101 := ⟨(mk_one (P := Try.prog) (by kernel_rfl) (by kernel_rfl)).out⟩
instance : One Try.prog 113 := ⟨(mk_one (P := Try.prog) (by kernel_rfl) (by kernel_rfl)).out⟩
instance : One Try.prog 119 := ⟨(mk_one (P := Try.prog) (by kernel_rfl) (by kernel_rfl)).out⟩
instance : One Try.prog 152 := ⟨(mk_one (P := Try.prog) (by kernel_rfl) (by kernel_rfl)).out⟩
instance : One Try.prog 156 := ⟨(mk_one (P := Try.prog) (by kernel_rfl) (by kernel_rfl)).out⟩
instance : Row Try.prog 22 32 := ⟨(mk_row (P := Try.prog) (by kernel_rfl) (by kernel_rfl)).out⟩
instance : Row Try.prog 26 6 := ⟨(mk_row (P := Try.prog) (by kernel_rfl) (by kernel_rfl)).out⟩
instance : Row Try.prog 30 6 := ⟨(mk_row (P := Try.prog) (by kernel_rfl) (by kernel_rfl)).out⟩
instance : Row Try.prog 40 2 := ⟨(mk_row (P := Try.prog) (by kernel_rfl) (by kernel_rfl)).out⟩
instance : Row Try.prog 42 2 := ⟨(mk_row (P := Try.prog) (by kernel_rfl) (by kernel_rfl)).out⟩
instance : Row Try.prog 57 16 := ⟨(mk_row (P := Try.prog) (by kernel_rfl) (by kernel_rfl)).out⟩
instance : Row Try.prog 65 2 := ⟨(mk_row (P := Try.prog) (by kernel_rfl) (by kernel_rfl)).out⟩
instance : Row Try.prog 70 2 := ⟨(mk_row (P := Try.prog) (by kernel_rfl) (by kernel_rfl)).out⟩
instance : Row Try.prog 80 32 := ⟨(mk_row (P := Try.prog) (by kernel_rfl) (by kernel_rfl)).out⟩
instance : Row Try.prog 87 16 := ⟨(mk_row (P := Try.prog) (by kernel_rfl) (by kernel_rfl)).out⟩
instance : Row Try.prog 94 2 := ⟨(mk_row (P := Try.prog) (by kernel_rfl) (by kernel_rfl)).out⟩
instance : Row Try.prog 103 3 := ⟨(mk_row (P := Try.prog) (by kernel_rfl) (by kernel_rfl)).out⟩
instance : Row Try.prog 112 3 := ⟨(mk_row (P := Try.prog) (by kernel_rfl) (by kernel_rfl)).out⟩
instance : Row Try.prog 115 18 := ⟨(mk_row (P := Try.prog) (by kernel_rfl) (by kernel_rfl)).out⟩
instance : Row Try.prog 117 22 := ⟨(mk_row (P := Try.prog) (by kernel_rfl) (by kernel_rfl)).out⟩
instance : Row Try.prog 118 3 := ⟨(mk_row (P := Try.prog) (by kernel_rfl) (by kernel_rfl)).out⟩
instance : Row Try.prog 121 18 := ⟨(mk_row (P := Try.prog) (by kernel_rfl) (by kernel_rfl)).out⟩
instance : Row Try.prog 123 22 := ⟨(mk_row (P := Try.prog) (by kernel_rfl) (by kernel_rfl)).out⟩
instance : Row Try.prog 139 2 := ⟨(mk_row (P := Try.prog) (by kernel_rfl) (by kernel_rfl)).out⟩
instance : Row Try.prog 146 2 := ⟨(mk_row (P := Try.prog) (by kernel_rfl) (by kernel_rfl)).out⟩
instance : Row Try.prog 150 64 := ⟨(mk_row (P := Try.prog) (by kernel_rfl) (by kernel_rfl)).out⟩
instance : Row Try.prog 158 8 := ⟨(mk_row (P := Try.prog) (by kernel_rfl) (by kernel_rfl)).out⟩
instance : Row Try.prog 160 11 := ⟨(mk_row (P := Try.prog) (by kernel_rfl) (by kernel_rfl)).out⟩
instance : Row Try.prog 164 64 := ⟨(mk_row (P := Try.prog) (by kernel_rfl) (by kernel_rfl)).out⟩
instance : Row Try.prog 168 8 := ⟨(mk_row (P := Try.prog) (by kernel_rfl) (by kernel_rfl)).out⟩
instance : Zero Try.prog 5 [.int .u8 0] := mk_zero (by kernel_rfl)
instance : Zero Try.prog 22 [.int .u8 0, .int .u8 0, .int .u8 0, .int .u8 0, .int .u8 0, .int .u8 0, .int .u8 0, .int .u8 0, .int .u8 0, .int .u8 0, .int .u8 0, .int .u8 0, .int .u8 0, .int .u8 0, .int .u8 0, .int .u8 0, .int .u8 0, .int .u8 0, .int .u8 0, .int .u8 0, .int .u8 0, .int .u8 0, .int .u8 0, .int .u8 0, .int .u8 0, .int .u8 0, .int .u8 0, .int .u8 0, .int .u8 0, .int .u8 0, .int .u8 0, .int .u8 0] := mk_zero (by kernel_rfl)
instance : Zero Try.prog 24 [.slice none 0 0] := mk_zero (by kernel_rfl)
instance : Zero Try.prog 26 [.int .i64 0, .int .i64 0, .int .u64 0, .int .u64 0, .int .i64 0, .slice none 0 0] := mk_zero (by kernel_rfl)
instance : Zero Try.prog 30 [.int .i64 0, .int .i64 0, .int .u64 0, .int .u64 0, .int .i64 0, .slice none 0 0] := mk_zero (by kernel_rfl)
instance : Zero Try.prog 40 [.int .u8 0, .slice none 0 0] := mk_zero (by kernel_rfl)
instance : Zero Try.prog 42 [.int .u8 0, .slice none 0 0] := mk_zero (by kernel_rfl)
instance : Zero Try.prog 57 [.int .u8 0, .int .u8 0, .int .u8 0, .int .u8 0, .int .u8 0, .int .u8 0, .int .u8 0, .int .u8 0, .int .u8 0, .int .u8 0, .int .u8 0, .int .u8 0, .int .u8 0, .int .u8 0, .int .u8 0, .int .u8 0] := mk_zero (by kernel_rfl)
instance : Zero Try.prog 65 [.bool false, .slice none 0 0] := mk_zero (by kernel_rfl)
instance : Zero Try.prog 70 [.bool false, .slice none 0 0] := mk_zero (by kernel_rfl)
instance : Zero Try.prog 80 [.int .u8 0, .int .u8 0, .int .u8 0, .int .u8 0, .int .u8 0, .int .u8 0, .int .u8 0, .int .u8 0, .int .u8 0, .int .u8 0, .int .u8 0, .int .u8 0, .int .u8 0, .int .u8 0, .int .u8 0, .int .u8 0, .int .u8 0, .int .u8 0, .int .u8 0, .int .u8 0, .int .u8 0, .int .u8 0, .int .u8 0, .int .u8 0, .int .u8 0, .int .u8 0, .int .u8 0, .int .u8 0, .int .u8 0, .int .u8 0, .int .u8 0, .int .u8 0] := mk_zero (by kernel_rfl)
instance : Zero Try.prog 87 [.int .u8 0, .int .u8 0, .int .u8 0, .int .u8 0, .int .u8 0, .int .u8 0, .int .u8 0, .int .u8 0, .int .u8 0, .int .u8 0, .int .u8 0, .int .u8 0, .int .u8 0, .int .u8 0, .int .u8 0, .int .u8 0] := mk_zero (by kernel_rfl)
instance : Zero Try.prog 92 [.int .u32 0] := mk_zero (by kernel_rfl)
instance : Zero Try.prog 94 [.slice none 0 0, .bool false] := mk_zero (by kernel_rfl)
instance : Zero Try.prog 103 [.slice none 0 0, .int .i64 0, .int .i64 0] := mk_zero (by kernel_rfl)
instance : Zero Try.prog 112 [.int .u32 0, .int .u32 0, .int .i64 0] := mk_zero (by kernel_rfl)
instance : Zero Try.prog 115 [.int .u8 0, .int .u8 0, .int .u8 0, .int .u8 0, .int .u8 0, .int .u8 0, .int .u8 0, .int .u8 0, .int .u8 0, .int .u8 0, .int .u8 0, .int .u8 0, .int .u8 0, .int .u8 0, .int .u8 0, .int .u8 0, .slice none 0 0, .slice none 0 0] := mk_zero (by kernel_rfl)
instance : Zero Try.prog 117 [.int .i64 0, .int .u32 0, .int .u32 0, .int .i64 0, .int .u8 0, .int .u8 0, .int .u8 0, .int .u8 0, .int .u8 0, .int .u8 0, .int .u8 0, .int .u8 0, .int .u8 0, .int .u8 0, .int .u8 0, .int .u8 0, .int .u8 0, .int .u8 0, .int .u8 0, .int .u8 0, .slice none 0 0, .slice none 0 0] := mk_zero (by kernel_rfl)
instance : Zero Try.prog 118 [.int .u32 0, .int .u32 0, .int .i64 0] := mk_zero (by kernel_rfl)
instance : Zero Try.prog 121 [.int .u8 0, .int .u8 0, .int .u8 0, .int .u8 0, .int .u8 0, .int .u8 0, .int .u8 0, .int .u8 0, .int .u8 0, .int .u8 0, .int .u8 0, .int .u8 0, .int .u8 0, .int .u8 0, .int .u8 0, .int .u8 0, .slice none 0 0, .slice none 0 0] := mk_zero (by kernel_rfl)
instance : Zero Try.prog 123 [.int .i64 0, .int .u32 0, .int .u32 0, .int .i64 0, .int .u8 0, .int .u8 0, .int .u8 0, .int .u8 0, .int .u8 0, .int .u8 0, .int .u8 0, .int .u8 0, .int .u8 0, .int .u8 0, .int .u8 0, .int .u8 0, .int .u8 0, .int .u8 0, .int .u8 0, .int .u8 0, .slice none 0 0, .slice none 0 0] := mk_zero (by kernel_rfl)
instance : Zero Try.prog 139 [.slice none 0 0, .bool false] := mk_zero (by kernel_rfl)
instance : Zero Try.prog 146 [.slice none 0 0, .int .i64 0] := mk_zero (by kernel_rfl)
instance : Zero Try.prog 150 [.int .u8 0, .int .u8 0, .int .u8 0, .int .u8 0, .int .u8 0, .int .u8 0, .int .u8 0, .int .u8 0, .int .u8 0, .int .u8 0, .int .u8 0, .int .u8 0, .int .u8 0, .int .u8 0, .int .u8 0, .int .u8 0, .int .u8 0, .int .u8 0, .int .u8 0, .int .u8 0, .int .u8 0, .int .u8 0, .int .u8 0, .int .u8 0, .int .u8 0, .int .u8 0, .int .u8 0, .int .u8 0, .int .u8 0, .int .u8 0, .int .u8 0, .int .u8 0, .int .u8 0, .int .u8 0, .int .u8 0, .int .u8 0, .int .u8 0, .int .u8 0, .int .u8 0, .int .u8 0, .int .u8 0, .int .u8 0, .int .u8 0, .int .u8 0, .int .u8 0, .int .u8 0, .int .u8 0, .int .u8 0, .int .u8 0, .int .u8 0, .int .u8 0, .int .u8 0, .int .u8 0, .int .u8 0, .int .u8 0, .int .u8 0, .int .u8 0, .int .u8 0, .int .u8 0, .int .u8 0, .int .u8 0, .int .u8 0, .int .u8 0, .int .u8 0] := mk_zero (by kernel_rfl)
instance : Zero Try.prog 158 [.int .u32 0, .int .u32 0, .int .u32 0, .int .u32 0, .int .u32 0, .int .u32 0, .int .u32 0, .int .u32 0] := mk_zero (by kernel_rfl)
instance : Zero Try.prog 160 [.int .u32 0, .int .u32 0, .int .u32 0, .int .u32 0, .int .u32 0, .int .u32 0, .int .u32 0, .int .u32 0, .slice none 0 0, .int .u64 0, .int .i64 0] := mk_zero (by kernel_rfl)
instance : Zero Try.prog 164 [.int .u32 0, .int .u32 0, .int .u32 0, .int .u32 0, .int .u32 0, .int .u32 0, .int .u32 0, .int .u32 0, .int .u32 0, .int .u32 0, .int .u32 0, .int .u32 0, .int .u32 0, .int .u32 0, .int .u32 0, .int .u32 0, .int .u32 0, .int .u32 0, .int .u32 0, .int .u32 0, .int .u32 0, .int .u32 0, .int .u32 0, .int .u32 0, .int .u32 0, .int .u32 0, .int .u32 0, .int .u32 0, .int .u32 0, .int .u32 0, .int .u32 0, .int .u32 0, .int .u32 0, .int .u32 0, .int .u32 0, .int .u32 0, .int .u32 0, .int .u32 0, .int .u32 0, .int .u32 0, .int .u32 0, .int .u32 0, .int .u32 0, .int .u32 0, .int .u32 0, .int .u32 0, .int .u32 0, .int .u32 0, .int .u32 0, .int .u32 0, .int .u32 0, .int .u32 0, .int .u32 0, .int .u32 0, .int .u32 0, .int .u32 0, .int .u32 0, .int .u32 0, .int .u32 0, .int .u32 0, .int .u32 0, .int .u32 0, .int .u32 0, .int .u32 0] := mk_zero (by kernel_rfl)
instance : Zero Try.prog 168 [.int .u8 0, .int .u8 0, .int .u8 0, .int .u8 0, .int .u8 0, .int .u8 0, .int .u8 0, .int .u8 0] := mk_zero (by kernel_rfl)
instance : Fld Try.prog 26 0 0 3 := mk_fld (n := 0) (by kernel_rfl)
instance : Fld Try.prog 26 1 1 3 := mk_fld (n := 0) (by kernel_rfl)
instance : Fld Try.prog 26 2 2 23 := mk_fld (n := 0) (by kernel_rfl)
instance : Fld Try.prog 26 3 3 23 := mk_fld (n := 0) (by kernel_rfl)
instance : Fld Try.prog 26 4 4 3 := mk_fld (n := 0) (by kernel_rfl)
instance : Fld Try.prog 26 5 5 24 := mk_fld (n := 0) (by kernel_rfl)
instance : Fld Try.prog 30 0 0 3 := mk_fld (n := 0) (by kernel_rfl)
instance : Fld Try.prog 30 1 1 3 := mk_fld (n := 0) (by kernel_rfl)
instance : Fld Try.prog 30 2 2 23 := mk_fld (n := 0) (by kernel_rfl)
instance : Fld Try.prog 30 3 3 23 := mk_fld (n := 0) (by kernel_rfl)
instance : Fld Try.prog 30 4 4 3 := mk_fld (n := 0) (by kernel_rfl)
instance : Fld Try.prog 30 5 5 24 := mk_fld (n := 0) (by kernel_rfl)
instance : Fld Try.prog 40 0 0 5 := mk_fld (n := 0) (by kernel_rfl)
instance : Fld Try.prog 40 1 1 38 := mk_fld (n := 0) (by kernel_rfl)
instance : Fld Try.prog 42 0 0 5 := mk_fld (n := 0) (by kernel_rfl)
instance : Fld Try.prog 42 1 1 38 := mk_fld (n := 0) (by kernel_rfl)
instance : Fld Try.prog 65 0 0 4 := mk_fld (n := 0) (by kernel_rfl)
instance : Fld Try.prog 65 1 1 63 := mk_fld (n := 0) (by kernel_rfl)
instance : Fld Try.prog 70 0 0 4 := mk_fld (n := 0) (by kernel_rfl)
instance : Fld Try.prog 70 1 1 68 := mk_fld (n := 0) (by kernel_rfl)
instance : Fld Try.prog 94 0 0 24 := mk_fld (n := 0) (by kernel_rfl)
instance : Fld Try.prog 94 1 1 4 := mk_fld (n := 0) (by kernel_rfl)
instance : Fld Try.prog 103 0 0 24 := mk_fld (n := 0) (by kernel_rfl)
instance : Fld Try.prog 103 1 1 3 := mk_fld (n := 0) (by kernel_rfl)
instance : Fld Try.prog 103 2 2 3 := mk_fld (n := 0) (by kernel_rfl)
instance : Fld Try.prog 112 0 0 92 := mk_fld (n := 0) (by kernel_rfl)
instance : Fld Try.prog 112 1 1 92 := mk_fld (n := 0) (by kernel_rfl)
instance : Fld Try.prog 112 2 2 3 := mk_fld (n := 0) (by kernel_rfl)
instance : Fld Try.prog 115 0 0 57 := mk_fld (n := 15) (by kernel_rfl)
instance : Fld Try.prog 115 1 16 113 := mk_fld (n := 0) (by kernel_rfl)
instance : Fld Try.prog 115 2 17 113 := mk_fld (n := 0) (by kernel_rfl)
instance : Fld Try.prog 117 0 0 3 := mk_fld (n := 0) (by kernel_rfl)
instance : Fld Try.prog 117 1 1 112 := mk_fld (n := 2) (by kernel_rfl)
instance : Fld Try.prog 117 2 4 115 := mk_fld (n := 17) (by kernel_rfl)
instance : Fld Try.prog 118 0 0 92 := mk_fld (n := 0) (by kernel_rfl)
instance : Fld Try.prog 118 1 1 92 := mk_fld (n := 0) (by kernel_rfl)
instance : Fld Try.prog 118 2 2 3 := mk_fld (n := 0) (by kernel_rfl)
instance : Fld Try.prog 121 0 0 87 := mk_fld (n := 15) (by kernel_rfl)
instance : Fld Try.prog 121 1 16 119 := mk_fld (n := 0) (by kernel_rfl)
instance : Fld Try.prog 121 2 17 119 := mk_fld (n := 0) (by kernel_rfl)
instance : Fld Try.prog 123 0 0 3 := mk_fld (n := 0) (by kernel_rfl)
instance : Fld Try.prog 123 1 1 118 := mk_fld (n := 2) (by kernel_rfl)
instance : Fld Try.prog 123 2 4 121 := mk_fld (n := 17) (by kernel_rfl)
instance : Fld Try.prog 139 0 0 24 := mk_fld (n := 0) (by kernel_rfl)
instance : Fld Try.prog 139 1 1 4 := mk_fld (n := 0) (by kernel_rfl)
instance : Fld Try.prog 146 0 0 24 := mk_fld (n := 0) (by kernel_rfl)
instance : Fld Try.prog 146 1 1 27 := mk_fld (n := 0) (by kernel_rfl)
instance : Fld Try.prog 160 0 0 158 := mk_fld (n := 7) (by kernel_rfl)
instance : Fld Try.prog 160 1 8 24 := mk_fld (n := 0) (by kernel_rfl)
instance : Fld Try.prog 160 2 9 23 := mk_fld (n := 0) (by kernel_rfl)
instance : Fld Try.prog 160 3 10 3 := mk_fld (n := 0) (by kernel_rfl)
instance : Slc Try.prog 24 5 1 := ⟨Try.underlying24, by kernel_rfl⟩
instance : Slc Try.prog 38 92 1 := ⟨Try.underlying38, by kernel_rfl⟩
instance : Slc Try.prog 44 24 1 := ⟨Try.underlying44, by kernel_rfl⟩
instance : Slc Try.prog 63 117 22 := ⟨Try.underlying63, by kernel_rfl⟩
instance : Slc Try.prog 68 123 22 := ⟨Try.underlying68, by kernel_rfl⟩
instance : Slc Try.prog 113 57 16 := ⟨Try.underlying113, by kernel_rfl⟩
instance : Slc Try.prog 119 87 16 := ⟨Try.underlying119, by kernel_rfl⟩
instance : Byt Try.prog 5 1 := ⟨by kernel_rfl⟩
instance : Byt Try.prog 24 24 := ⟨by kernel_rfl⟩
instance : Byt Try.prog 57 16 := ⟨by kernel_rfl⟩
instance : Byt Try.prog 87 16 := ⟨by kernel_rfl⟩
instance : Byt Try.prog 92 4 := ⟨by kernel_rfl⟩
instance : Byt Try.prog 117 88 := ⟨by kernel_rfl⟩
instance : Byt Try.prog 123 88 := ⟨by kernel_rfl⟩
instance : Arr Try.prog 22 5 32 1 := ⟨Try.underlying22, by kernel_rfl⟩
instance : Arr Try.prog 57 5 16 1 := ⟨Try.underlying57, by kernel_rfl⟩
instance : Arr Try.prog 80 5 32 1 := ⟨Try.underlying80, by kernel_rfl⟩
instance : Arr Try.prog 87 5 16 1 := ⟨Try.underlying87, by kernel_rfl⟩
instance : Arr Try.prog 150 5 64 1 := ⟨Try.underlying150, by kernel_rfl⟩
instance : Arr Try.prog 158 92 8 1 := ⟨Try.underlying158, by kernel_rfl⟩
instance : Arr Try.prog 164 92 64 1 := ⟨Try.underlying164, by kernel_rfl⟩
instance : Arr Try.prog 168 5 8 1 := ⟨Try.underlying168, by kernel_rfl⟩
instance : Und Try.prog 3 (.int .i64) := ⟨Try.underlying3⟩
instance : Und Try.prog 4 (.bool) := ⟨Try.underlying4⟩
instance : Und Try.prog 5 (.int .u8) := ⟨Try.underlying5⟩
instance : Und Try.prog 9 (.string) := ⟨Try.underlying9⟩
instance : Und Try.prog 22 (.array 32 5) := ⟨Try.underlying22⟩
instance : Und Try.prog 23 (.int .u64) := ⟨Try.underlying23⟩
instance : Und Try.prog 24 (.slice 5) := ⟨Try.underlying24⟩
instance : Und Try.prog 27 (.int .i64) := ⟨Try.underlying27⟩
instance : Und Try.prog 38 (.slice 92) := ⟨Try.underlying38⟩
instance : Und Try.prog 44 (.slice 24) := ⟨Try.underlying44⟩
instance : Und Try.prog 57 (.array 16 5) := ⟨Try.underlying57⟩
instance : Und Try.prog 63 (.slice 117) := ⟨Try.underlying63⟩
instance : Und Try.prog 68 (.slice 123) := ⟨Try.underlying68⟩
instance : Und Try.prog 80 (.array 32 5) := ⟨Try.underlying80⟩
instance : Und Try.prog 82 (.pointer 139) := ⟨Try.underlying82⟩
instance : Und Try.prog 87 (.array 16 5) := ⟨Try.underlying87⟩
instance : Und Try.prog 92 (.int .u32) := ⟨Try.underlying92⟩
instance : Und Try.prog 96 (.pointer 146) := ⟨Try.underlying96⟩
instance : Und Try.prog 101 (.pointer 103) := ⟨Try.underlying101⟩
instance : Und Try.prog 113 (.slice 57) := ⟨Try.underlying113⟩
instance : Und Try.prog 119 (.slice 87) := ⟨Try.underlying119⟩
instance : Und Try.prog 150 (.array 64 5) := ⟨Try.underlying150⟩
instance : Und Try.prog 152 (.pointer 160) := ⟨Try.underlying152⟩
instance : Und Try.prog 156 (.int .u64) := ⟨Try.underlying156⟩
instance : Und Try.prog 158 (.array 8 92) := ⟨Try.underlying158⟩
instance : Und Try.prog 164 (.array 64 92) := ⟨Try.underlying164⟩
instance : Und Try.prog 168 (.array 8 5) := ⟨Try.underlying168⟩
instance : Plc Try.prog 26 [(0, 1), (1, 1), (2, 1), (3, 1), (4, 1), (5, 1)] := mk_plc (by kernel_rfl)
instance : Plc Try.prog 30 [(0, 1), (1, 1), (2, 1), (3, 1), (4, 1), (5, 1)] := mk_plc (by kernel_rfl)
instance : Plc Try.prog 40 [(0, 1), (1, 1)] := mk_plc (by kernel_rfl)
instance : Plc Try.prog 42 [(0, 1), (1, 1)] := mk_plc (by kernel_rfl)
instance : Plc Try.prog 65 [(0, 1), (1, 1)] := mk_plc (by kernel_rfl)
instance : Plc Try.prog 70 [(0, 1), (1, 1)] := mk_plc (by kernel_rfl)
instance : Plc Try.prog 80 [(0, 1), (1, 1), (2, 1), (3, 1), (4, 1), (5, 1), (6, 1), (7, 1), (8, 1), (9, 1), (10, 1), (11, 1), (12, 1), (13, 1), (14, 1), (15, 1), (16, 1), (17, 1), (18, 1), (19, 1), (20, 1), (21, 1), (22, 1), (23, 1), (24, 1), (25, 1), (26, 1), (27, 1), (28, 1), (29, 1), (30, 1), (31, 1)] := mk_plca Try.underlying80 (by kernel_rfl : _ = some 1) rfl
instance : Plc Try.prog 94 [(0, 1), (1, 1)] := mk_plc (by kernel_rfl)
instance : Plc Try.prog 103 [(0, 1), (1, 1), (2, 1)] := mk_plc (by kernel_rfl)
instance : Plc Try.prog 112 [(0, 1), (1, 1), (2, 1)] := mk_plc (by kernel_rfl)
instance : Plc Try.prog 115 [(0, 16), (16, 1), (17, 1)] := mk_plc (by kernel_rfl)
instance : Plc Try.prog 117 [(0, 1), (1, 3), (4, 18)] := mk_plc (by kernel_rfl)
instance : Plc Try.prog 118 [(0, 1), (1, 1), (2, 1)] := mk_plc (by kernel_rfl)
instance : Plc Try.prog 121 [(0, 16), (16, 1), (17, 1)] := mk_plc (by kernel_rfl)
instance : Plc Try.prog 123 [(0, 1), (1, 3), (4, 18)] := mk_plc (by kernel_rfl)
instance : Plc Try.prog 139 [(0, 1), (1, 1)] := mk_plc (by kernel_rfl)
instance : Plc Try.prog 146 [(0, 1), (1, 1)] := mk_plc (by kernel_rfl)
instance : Plc Try.prog 158 [(0, 1), (1, 1), (2, 1), (3, 1), (4, 1), (5, 1), (6, 1), (7, 1)] := mk_plca Try.underlying158 (by kernel_rfl : _ = some 1) rfl
instance : Plc Try.prog 160 [(0, 8), (8, 1), (9, 1), (10, 1)] := mk_plc (by kernel_rfl)
instance : Plc Try.prog 164 [(0, 1), (1, 1), (2, 1), (3, 1), (4, 1), (5, 1), (6, 1), (7, 1), (8, 1), (9, 1), (10, 1), (11, 1), (12, 1), (13, 1), (14, 1), (15, 1), (16, 1), (17, 1), (18, 1), (19, 1), (20, 1), (21, 1), (22, 1), (23, 1), (24, 1), (25, 1), (26, 1), (27, 1), (28, 1), (29, 1), (30, 1), (31, 1), (32, 1), (33, 1), (34, 1), (35, 1), (36, 1), (37, 1), (38, 1), (39, 1), (40, 1), (41, 1), (42, 1), (43, 1), (44, 1), (45, 1), (46, 1), (47, 1), (48, 1), (49, 1), (50, 1), (51, 1), (52, 1), (53, 1), (54, 1), (55, 1), (56, 1), (57, 1), (58, 1), (59, 1), (60, 1), (61, 1), (62, 1), (63, 1)] := mk_plca Try.underlying164 (by kernel_rfl : _ = some 1) rfl
instance : Ints Try.prog 112 [.u32, .u32, .i64] := ⟨_, Try.underlying112, ⟨by decide, rfl, Try.underlying92, by decide, rfl, Try.underlying92, by decide, rfl, Try.underlying3, trivial⟩, by kernel_rfl, by kernel_rfl⟩
instance : Clb Try.prog 8 := ⟨_, Try.func8, rfl, by kernel_rfl⟩
instance : Clb Try.prog 9 := ⟨_, Try.func9, rfl, by kernel_rfl⟩
instance : Clb Try.prog 10 := ⟨_, Try.func10, rfl, by kernel_rfl⟩
instance : Clb Try.prog 11 := ⟨_, Try.func11, rfl, by kernel_rfl⟩
instance : Clb Try.prog 12 := ⟨_, Try.func12, rfl, by kernel_rfl⟩
instance : Clb Try.prog 13 := ⟨_, Try.func13, rfl, by kernel_rfl⟩
instance : Clb Try.prog 14 := ⟨_, Try.func14, rfl, by kernel_rfl⟩
instance : Clb Try.prog 15 := ⟨_, Try.func15, rfl, by kernel_rfl⟩
instance : Clb Try.prog 16 := ⟨_, Try.func16, rfl, by kernel_rfl⟩
instance : Clb Try.prog 17 := ⟨_, Try.func17, rfl, by kernel_rfl⟩
instance : Clb Try.prog 18 := ⟨_, Try.func18, rfl, by kernel_rfl⟩
instance : Clb Try.prog 19 := ⟨_, Try.func19, rfl, by kernel_rfl⟩
instance : Clb Try.prog 20 := ⟨_, Try.func20, rfl, by kernel_rfl⟩
instance : Clb Try.prog 21 := ⟨_, Try.func21, rfl, by kernel_rfl⟩
instance : Clb Try.prog 22 := ⟨_, Try.func22, rfl, by kernel_rfl⟩
instance : Clb Try.prog 23 := ⟨_, Try.func23, rfl, by kernel_rfl⟩
instance : Clb Try.prog 24 := ⟨_, Try.func24, rfl, by kernel_rfl⟩
instance : Clb Try.prog 25 := ⟨_, Try.func25, rfl, by kernel_rfl⟩
instance : Clb Try.prog 26 := ⟨_, Try.func26, rfl, by kernel_rfl⟩
instance : Clb Try.prog 27 := ⟨_, Try.func27, rfl, by kernel_rfl⟩
instance : Clb Try.prog 28 := ⟨_, Try.func28, rfl, by kernel_rfl⟩
instance : Clb Try.prog 29 := ⟨_, Try.func29, rfl, by kernel_rfl⟩
instance : Clb Try.prog 30 := ⟨_, Try.func30, rfl, by kernel_rfl⟩
instance : Clb Try.prog 31 := ⟨_, Try.func31, rfl, by kernel_rfl⟩
instance : Clb Try.prog 32 := ⟨_, Try.func32, rfl, by kernel_rfl⟩
instance : Clb Try.prog 33 := ⟨_, Try.func33, rfl, by kernel_rfl⟩
instance : Clb Try.prog 34 := ⟨_, Try.func34, rfl, by kernel_rfl⟩
instance : Clb Try.prog 35 := ⟨_, Try.func35, rfl, by kernel_rfl⟩
instance : Clb Try.prog 36 := ⟨_, Try.func36, rfl, by kernel_rfl⟩
instance : Clb Try.prog 37 := ⟨_, Try.func37, rfl, by kernel_rfl⟩
instance : Clb Try.prog 38 := ⟨_, Try.func38, rfl, by kernel_rfl⟩
instance : Clb Try.prog 39 := ⟨_, Try.func39, rfl, by kernel_rfl⟩
instance : Clb Try.prog 40 := ⟨_, Try.func40, rfl, by kernel_rfl⟩
instance : Clb Try.prog 41 := ⟨_, Try.func41, rfl, by kernel_rfl⟩
instance : Clb Try.prog 42 := ⟨_, Try.func42, rfl, by kernel_rfl⟩
instance : Clb Try.prog 43 := ⟨_, Try.func43, rfl, by kernel_rfl⟩
instance : Clb Try.prog 44 := ⟨_, Try.func44, rfl, by kernel_rfl⟩
instance : Clb Try.prog 45 := ⟨_, Try.func45, rfl, by kernel_rfl⟩
instance : Clb Try.prog 46 := ⟨_, Try.func46, rfl, by kernel_rfl⟩
instance : Clb Try.prog 47 := ⟨_, Try.func47, rfl, by kernel_rfl⟩
instance : Clb Try.prog 48 := ⟨_, Try.func48, rfl, by kernel_rfl⟩
instance : Clb Try.prog 49 := ⟨_, Try.func49, rfl, by kernel_rfl⟩
instance : Clb Try.prog 50 := ⟨_, Try.func50, rfl, by kernel_rfl⟩
instance : Clb Try.prog 51 := ⟨_, Try.func51, rfl, by kernel_rfl⟩
instance : Clb Try.prog 52 := ⟨_, Try.func52, rfl, by kernel_rfl⟩
instance : Clb Try.prog 53 := ⟨_, Try.func53, rfl, by kernel_rfl⟩
instance : Clb Try.prog 54 := ⟨_, Try.func54, rfl, by kernel_rfl⟩
instance : Clb Try.prog 55 := ⟨_, Try.func55, rfl, by kernel_rfl⟩
instance : Clb Try.prog 56 := ⟨_, Try.func56, rfl, by kernel_rfl⟩
instance : Clb Try.prog 57 := ⟨_, Try.func57, rfl, by kernel_rfl⟩
instance : Clb Try.prog 58 := ⟨_, Try.func58, rfl, by kernel_rfl⟩
instance : Clb Try.prog 59 := ⟨_, Try.func59, rfl, by kernel_rfl⟩
instance : Clb Try.prog 60 := ⟨_, Try.func60, rfl, by kernel_rfl⟩
instance : Clb Try.prog 61 := ⟨_, Try.func61, rfl, by kernel_rfl⟩
instance : Clb Try.prog 62 := ⟨_, Try.func62, rfl, by kernel_rfl⟩
instance : Clb Try.prog 63 := ⟨_, Try.func63, rfl, by kernel_rfl⟩
instance : Clb Try.prog 64 := ⟨_, Try.func64, rfl, by kernel_rfl⟩
instance : Clb Try.prog 65 := ⟨_, Try.func65, rfl, by kernel_rfl⟩
instance : Clb Try.prog 66 := ⟨_, Try.func66, rfl, by kernel_rfl⟩
instance : Clb Try.prog 67 := ⟨_, Try.func67, rfl, by kernel_rfl⟩
instance : Clb Try.prog 68 := ⟨_, Try.func68, rfl, by kernel_rfl⟩
instance : Clb Try.prog 69 := ⟨_, Try.func69, rfl, by kernel_rfl⟩
instance : Clb Try.prog 70 := ⟨_, Try.func70, rfl, by kernel_rfl⟩
instance : Clb Try.prog 71 := ⟨_, Try.func71, rfl, by kernel_rfl⟩
instance : Clb Try.prog 72 := ⟨_, Try.func72, rfl, by kernel_rfl⟩
instance : Clb Try.prog 73 := ⟨_, Try.func73, rfl, by kernel_rfl⟩
instance : Clb Try.prog 74 := ⟨_, Try.func74, rfl, by kernel_rfl⟩
instance : Clb Try.prog 75 := ⟨_, Try.func75, rfl, by kernel_rfl⟩
instance : Clb Try.prog 76 := ⟨_, Try.func76, rfl, by kernel_rfl⟩
instance : Clb Try.prog 77 := ⟨_, Try.func77, rfl, by kernel_rfl⟩
instance : Clb Try.prog 78 := ⟨_, Try.func78, rfl, by kernel_rfl⟩
instance : Clb Try.prog 79 := ⟨_, Try.func79, rfl, by kernel_rfl⟩
instance : Clb Try.prog 80 := ⟨_, Try.func80, rfl, by kernel_rfl⟩
instance : Clb Try.prog 81 := ⟨_, Try.func81, rfl, by kernel_rfl⟩
instance : Clb Try.prog 82 := ⟨_, Try.func82, rfl, by kernel_rfl⟩
instance : Clb Try.prog 83 := ⟨_, Try.func83, rfl, by kernel_rfl⟩
instance : Clb Try.prog 84 := ⟨_, Try.func84, rfl, by kernel_rfl⟩
instance : Clb Try.prog 85 := ⟨_, Try.func85, rfl, by kernel_rfl⟩
instance : Clb Try.prog 86 := ⟨_, Try.func86, rfl, by kernel_rfl⟩
instance : Clb Try.prog 87 := ⟨_, Try.func87, rfl, by kernel_rfl⟩
instance : Clb Try.prog 88 := ⟨_, Try.func88, rfl, by kernel_rfl⟩
instance : Clb Try.prog 89 := ⟨_, Try.func89, rfl, by kernel_rfl⟩
instance : Clb Try.prog 90 := ⟨_, Try.func90, rfl, by kernel_rfl⟩
instance : Clb Try.prog 91 := ⟨_, Try.func91, rfl, by kernel_rfl⟩
instance : Clb Try.prog 92 := ⟨_, Try.func92, rfl, by kernel_rfl⟩
instance : Clb Try.prog 93 := ⟨_, Try.func93, rfl, by kernel_rfl⟩
instance : Clb Try.prog 94 := ⟨_, Try.func94, rfl, by kernel_rfl⟩
instance : Clb Try.prog 95 := ⟨_, Try.func95, rfl, by kernel_rfl⟩
instance : Clb Try.prog 96 := ⟨_, Try.func96, rfl, by kernel_rfl⟩
instance : Clb Try.prog 97 := ⟨_, Try.func97, rfl, by kernel_rfl⟩
instance : Clb Try.prog 98 := ⟨_, Try.func98, rfl, by kernel_rfl⟩
instance : Clb Try.prog 99 := ⟨_, Try.func99, rfl, by kernel_rfl⟩
instance : Clb Try.prog 100 := ⟨_, Try.func100, rfl, by kernel_rfl⟩
instance : Clb Try.prog 101 := ⟨_, Try.func101, rfl, by kernel_rfl⟩
instance : Clb Try.prog 102 := ⟨_, Try.func102, rfl, by kernel_rfl⟩
instance : Clb Try.prog 103 := ⟨_, Try.func103, rfl, by kernel_rfl⟩
instance : Clb Try.prog 104 := ⟨_, Try.func104, rfl, by kernel_rfl⟩
instance : Clb Try.prog 105 := ⟨_, Try.func105, rfl, by kernel_rfl⟩
end Go.Proofs.YthjdhmnmlblpfaaR
