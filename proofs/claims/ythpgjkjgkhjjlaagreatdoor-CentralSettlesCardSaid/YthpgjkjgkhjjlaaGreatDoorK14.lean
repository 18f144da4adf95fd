/- Part K14 of a proof of statements of chapter 15 (no condition). -/
import Derived.Test.YthpgjkjgkhjjlaaGreatDoorK11
import Derived.Test.YthpgjkjgkhjjlaaGreatDoorK12
set_option linter.unusedVariables false
set_option linter.unusedSimpArgs false
set_option maxRecDepth 100000
set_option maxHeartbeats 64000000
namespace Go.Proofs.YthpgjkjgkhjjlaaGreatDoor
open Go.RowKit Go.Proofs.Tryz
instance:TI prog 1 false 1:=.of (by kernel_rfl)
instance:TZ prog 1 [.nilFunc]:=.of (by kernel_rfl) rfl
instance:TI prog 3 false 1:=.of (by kernel_rfl)
instance:TZ prog 3 [.int .i64 0]:=.of (by kernel_rfl) rfl
instance:TI prog 4 false 1:=.of (by kernel_rfl)
instance:TZ prog 4 [.bool false]:=.of (by kernel_rfl) rfl
instance:TI prog 9 false 1:=.of (by kernel_rfl)
instance:TZ prog 9 [.string { data:=#[] }]:=.of (by kernel_rfl) rfl
instance:TI prog 22 false 1:=.of (by kernel_rfl)
instance:SE prog 22 3:=⟨underlying22⟩
instance:TZ prog 22 [.slice none 0 0]:=.of (by kernel_rfl) rfl
instance:TI prog 25 false 1:=.of (by kernel_rfl)
instance:SE prog 25 63:=⟨underlying25⟩
instance:TZ prog 25 [.slice none 0 0]:=.of (by kernel_rfl) rfl
instance:TI prog 26 false 1:=.of (by kernel_rfl)
instance:SE prog 26 51:=⟨underlying26⟩
instance:TZ prog 26 [.slice none 0 0]:=.of (by kernel_rfl) rfl
instance:TI prog 29 false 1:=.of (by kernel_rfl)
instance:SE prog 29 66:=⟨underlying29⟩
instance:TZ prog 29 [.slice none 0 0]:=.of (by kernel_rfl) rfl
instance:TI prog 30 false 1:=.of (by kernel_rfl)
instance:SE prog 30 82:=⟨underlying30⟩
instance:TZ prog 30 [.slice none 0 0]:=.of (by kernel_rfl) rfl
instance:TI prog 32 true 3:=.of (by kernel_rfl)
instance:TZ prog 32 [.int .i64 0,.slice none 0 0,.slice none 0 0]:=.of (by kernel_rfl) rfl
instance:SP prog 32 [.int .i64 0,.slice none 0 0,.slice none 0 0] [(0,1),(1,1),(2,1)]:=.of (by kernel_rfl) (by kernel_rfl)
instance:FO prog 32 0 0 3:=.of (by kernel_rfl)
instance:FO prog 32 1 1 29:=.of (by kernel_rfl)
instance:FO prog 32 2 2 30:=.of (by kernel_rfl)
instance:TI prog 36 false 1:=.of (by kernel_rfl)
instance:SE prog 36 68:=⟨underlying36⟩
instance:TZ prog 36 [.slice none 0 0]:=.of (by kernel_rfl) rfl
instance:TI prog 40 true 3:=.of (by kernel_rfl)
instance:TZ prog 40 [.int .i64 0,.int .i64 0,.int .i64 0]:=.of (by kernel_rfl) rfl
instance:SP prog 40 [.int .i64 0,.int .i64 0,.int .i64 0] [(0,1),(1,1),(2,1)]:=.of (by kernel_rfl) (by kernel_rfl)
instance:FO prog 40 0 0 3:=.of (by kernel_rfl)
instance:FO prog 40 1 1 3:=.of (by kernel_rfl)
instance:FO prog 40 2 2 3:=.of (by kernel_rfl)
instance:TI prog 42 true 2:=.of (by kernel_rfl)
instance:TZ prog 42 [.int .i64 0,.int .i64 0]:=.of (by kernel_rfl) rfl
instance:SP prog 42 [.int .i64 0,.int .i64 0] [(0,1),(1,1)]:=.of (by kernel_rfl) (by kernel_rfl)
instance:FO prog 42 0 0 3:=.of (by kernel_rfl)
instance:FO prog 42 1 1 3:=.of (by kernel_rfl)
instance:TI prog 44 true 3:=.of (by kernel_rfl)
instance:TZ prog 44 [.string { data:=#[] },.int .i64 0,.int .i64 0]:=.of (by kernel_rfl) rfl
instance:SP prog 44 [.string { data:=#[] },.int .i64 0,.int .i64 0] [(0,1),(1,2)]:=.of (by kernel_rfl) (by kernel_rfl)
instance:FO prog 44 0 0 9:=.of (by kernel_rfl)
instance:FO prog 44 1 1 42:=.of (by kernel_rfl)
instance:TI prog 45 false 1:=.of (by kernel_rfl)
instance:SE prog 45 47:=⟨underlying45⟩
instance:TZ prog 45 [.slice none 0 0]:=.of (by kernel_rfl) rfl
instance:TI prog 47 true 5:=.of (by kernel_rfl)
instance:TZ prog 47 [.int .i64 0,.string { data:=#[] },.int .i64 0,.int .i64 0,.slice none 0 0]:=.of (by kernel_rfl) rfl
instance:SP prog 47 [.int .i64 0,.string { data:=#[] },.int .i64 0,.int .i64 0,.slice none 0 0] [(0,1),(1,3),(4,1)]:=.of (by kernel_rfl) (by kernel_rfl)
instance:FO prog 47 0 0 3:=.of (by kernel_rfl)
instance:FO prog 47 1 1 44:=.of (by kernel_rfl)
instance:FO prog 47 2 4 45:=.of (by kernel_rfl)
instance:TI prog 49 true 7:=.of (by kernel_rfl)
instance:TZ prog 49 [.int .i64 0,.string { data:=#[] },.int .i64 0,.int .i64 0,.slice none 0 0,.int .i64 0,.int .i64 0]:=.of (by kernel_rfl) rfl
instance:SP prog 49 [.int .i64 0,.string { data:=#[] },.int .i64 0,.int .i64 0,.slice none 0 0,.int .i64 0,.int .i64 0] [(0,5),(5,1),(6,1)]:=.of (by kernel_rfl) (by kernel_rfl)
instance:FO prog 49 0 0 47:=.of (by kernel_rfl)
instance:FO prog 49 1 5 3:=.of (by kernel_rfl)
instance:FO prog 49 2 6 3:=.of (by kernel_rfl)
instance:TI prog 51 true 13:=.of (by kernel_rfl)
instance:TZ prog 51 [.int .i64 0,.int .i64 0,.int .i64 0,.int .i64 0,.int .i64 0,.string { data:=#[] },.int .i64 0,.int .i64 0,.slice none 0 0,.int .i64 0,.int .i64 0,.string { data:=#[] },.int .i64 0]:=.of (by kernel_rfl) rfl
instance:SP prog 51 [.int .i64 0,.int .i64 0,.int .i64 0,.int .i64 0,.int .i64 0,.string { data:=#[] },.int .i64 0,.int .i64 0,.slice none 0 0,.int .i64 0,.int .i64 0,.string { data:=#[] },.int .i64 0] [(0,1),(1,3),(4,7),(11,1),(12,1)]:=.of (by kernel_rfl) (by kernel_rfl)
instance:FO prog 51 0 0 3:=.of (by kernel_rfl)
instance:FO prog 51 1 1 40:=.of (by kernel_rfl)
instance:FO prog 51 2 4 49:=.of (by kernel_rfl)
instance:FO prog 51 3 11 9:=.of (by kernel_rfl)
instance:FO prog 51 4 12 3:=.of (by kernel_rfl)
instance:TI prog 58 true 2:=.of (by kernel_rfl)
instance:TZ prog 58 [.slice none 0 0,.int .i64 0]:=.of (by kernel_rfl) rfl
instance:SP prog 58 [.slice none 0 0,.int .i64 0] [(0,1),(1,1)]:=.of (by kernel_rfl) (by kernel_rfl)
instance:FO prog 58 0 0 22:=.of (by kernel_rfl)
instance:FO prog 58 1 1 3:=.of (by kernel_rfl)
instance:TI prog 60 false 1:=.of (by kernel_rfl)
instance:SE prog 60 61:=⟨underlying60⟩
instance:TZ prog 60 [.slice none 0 0]:=.of (by kernel_rfl) rfl
instance:TI prog 61 false 1:=.of (by kernel_rfl)
instance:SE prog 61 121:=⟨underlying61⟩
instance:TZ prog 61 [.slice none 0 0]:=.of (by kernel_rfl) rfl
instance:TI prog 63 true 4:=.of (by kernel_rfl)
instance:TZ prog 63 [.string { data:=#[] },.int .i64 0,.int .i64 0,.int .i64 0]:=.of (by kernel_rfl) rfl
instance:SP prog 63 [.string { data:=#[] },.int .i64 0,.int .i64 0,.int .i64 0] [(0,1),(1,1),(2,1),(3,1)]:=.of (by kernel_rfl) (by kernel_rfl)
instance:FO prog 63 0 0 9:=.of (by kernel_rfl)
instance:FO prog 63 1 1 3:=.of (by kernel_rfl)
instance:FO prog 63 2 2 3:=.of (by kernel_rfl)
instance:FO prog 63 3 3 3:=.of (by kernel_rfl)
instance:TI prog 64 false 1:=.of (by kernel_rfl)
instance:SE prog 64 173:=⟨underlying64⟩
instance:TZ prog 64 [.slice none 0 0]:=.of (by kernel_rfl) rfl
instance:TI prog 66 true 8:=.of (by kernel_rfl)
instance:TZ prog 66 [.string { data:=#[] },.int .i64 0,.int .i64 0,.int .i64 0,.slice none 0 0,.slice none 0 0,.slice none 0 0,.int .i64 0]:=.of (by kernel_rfl) rfl
instance:SP prog 66 [.string { data:=#[] },.int .i64 0,.int .i64 0,.int .i64 0,.slice none 0 0,.slice none 0 0,.slice none 0 0,.int .i64 0] [(0,4),(4,1),(5,1),(6,1),(7,1)]:=.of (by kernel_rfl) (by kernel_rfl)
instance:FO prog 66 0 0 63:=.of (by kernel_rfl)
instance:FO prog 66 1 4 61:=.of (by kernel_rfl)
instance:FO prog 66 2 5 64:=.of (by kernel_rfl)
instance:FO prog 66 3 6 64:=.of (by kernel_rfl)
instance:FO prog 66 4 7 3:=.of (by kernel_rfl)
instance:TI prog 68 true 7:=.of (by kernel_rfl)
instance:TZ prog 68 [.int .i64 0,.int .i64 0,.int .i64 0,.int .i64 0,.string { data:=#[] },.int .i64 0,.int .i64 0]:=.of (by kernel_rfl) rfl
instance:SP prog 68 [.int .i64 0,.int .i64 0,.int .i64 0,.int .i64 0,.string { data:=#[] },.int .i64 0,.int .i64 0] [(0,1),(1,3),(4,1),(5,2)]:=.of (by kernel_rfl) (by kernel_rfl)
instance:FO prog 68 0 0 3:=.of (by kernel_rfl)
instance:FO prog 68 1 1 40:=.of (by kernel_rfl)
instance:FO prog 68 2 4 9:=.of (by kernel_rfl)
instance:FO prog 68 3 5 42:=.of (by kernel_rfl)
instance:TI prog 77 false 1:=.of (by kernel_rfl)
instance:SE prog 77 132:=⟨underlying77⟩
instance:TZ prog 77 [.slice none 0 0]:=.of (by kernel_rfl) rfl
instance:TI prog 78 false 1:=.of (by kernel_rfl)
instance:SE prog 78 207:=⟨underlying78⟩
instance:TZ prog 78 [.slice none 0 0]:=.of (by kernel_rfl) rfl
instance:TI prog 80 true 2:=.of (by kernel_rfl)
instance:TZ prog 80 [.slice none 0 0,.slice none 0 0]:=.of (by kernel_rfl) rfl
instance:SP prog 80 [.slice none 0 0,.slice none 0 0] [(0,1),(1,1)]:=.of (by kernel_rfl) (by kernel_rfl)
instance:FO prog 80 0 0 77:=.of (by kernel_rfl)
instance:FO prog 80 1 1 78:=.of (by kernel_rfl)
instance:TI prog 82 true 16:=.of (by kernel_rfl)
instance:TZ prog 82 [.int .i64 0,.int .i64 0,.int .i64 0,.int .i64 0,.slice none 0 0,.slice none 0 0,.bool false,.int .i64 0,.string { data:=#[] },.int .i64 0,.int .i64 0,.slice none 0 0,.int .i64 0,.int .i64 0,.int .i64 0,.int .i64 0]:=.of (by kernel_rfl) rfl
instance:SP prog 82 [.int .i64 0,.int .i64 0,.int .i64 0,.int .i64 0,.slice none 0 0,.slice none 0 0,.bool false,.int .i64 0,.string { data:=#[] },.int .i64 0,.int .i64 0,.slice none 0 0,.int .i64 0,.int .i64 0,.int .i64 0,.int .i64 0] [(0,3),(3,1),(4,2),(6,1),(7,7),(14,1),(15,1)]:=.of (by kernel_rfl) (by kernel_rfl)
instance:FO prog 82 0 0 40:=.of (by kernel_rfl)
instance:FO prog 82 1 3 3:=.of (by kernel_rfl)
instance:FO prog 82 2 4 80:=.of (by kernel_rfl)
instance:FO prog 82 3 6 4:=.of (by kernel_rfl)
instance:FO prog 82 4 7 49:=.of (by kernel_rfl)
instance:FO prog 82 5 14 3:=.of (by kernel_rfl)
instance:FO prog 82 6 15 3:=.of (by kernel_rfl)
instance:TI prog 86 false 1:=.of (by kernel_rfl)
instance:SE prog 86 4:=⟨underlying86⟩
instance:TZ prog 86 [.slice none 0 0]:=.of (by kernel_rfl) rfl
instance:TI prog 88 false 1:=.of (by kernel_rfl)
instance:SE prog 88 44:=⟨underlying88⟩
instance:TZ prog 88 [.slice none 0 0]:=.of (by kernel_rfl) rfl
instance:TI prog 106 false 1:=.of (by kernel_rfl)
instance:TZ prog 106 [.pointer none]:=.of (by kernel_rfl) rfl
instance:TI prog 109 true 4:=.of (by kernel_rfl)
instance:TZ prog 109 [.int .i64 0,.slice none 0 0,.slice none 0 0,.slice none 0 0]:=.of (by kernel_rfl) rfl
instance:SP prog 109 [.int .i64 0,.slice none 0 0,.slice none 0 0,.slice none 0 0] [(0,3),(3,1)]:=.of (by kernel_rfl) (by kernel_rfl)
instance:FO prog 109 0 0 32:=.of (by kernel_rfl)
instance:FO prog 109 1 3 36:=.of (by kernel_rfl)
instance:TI prog 113 true 4:=.of (by kernel_rfl)
instance:TZ prog 113 [.int .i64 0,.slice none 0 0,.slice none 0 0,.slice none 0 0]:=.of (by kernel_rfl) rfl
instance:SP prog 113 [.int .i64 0,.slice none 0 0,.slice none 0 0,.slice none 0 0] [(0,3),(3,1)]:=.of (by kernel_rfl) (by kernel_rfl)
instance:FO prog 113 0 0 32:=.of (by kernel_rfl)
instance:FO prog 113 1 3 36:=.of (by kernel_rfl)
instance:TI prog 121 true 5:=.of (by kernel_rfl)
instance:TZ prog 121 [.int .i64 0,.int .i64 0,.int .i64 0,.int .i64 0,.int .i64 0]:=.of (by kernel_rfl) rfl
instance:SP prog 121 [.int .i64 0,.int .i64 0,.int .i64 0,.int .i64 0,.int .i64 0] [(0,3),(3,2)]:=.of (by kernel_rfl) (by kernel_rfl)
instance:FO prog 121 0 0 40:=.of (by kernel_rfl)
instance:FO prog 121 1 3 42:=.of (by kernel_rfl)
instance:TI prog 132 true 5:=.of (by kernel_rfl)
instance:TZ prog 132 [.string { data:=#[] },.int .i64 0,.int .i64 0,.int .i64 0,.int .i64 0]:=.of (by kernel_rfl) rfl
instance:SP prog 132 [.string { data:=#[] },.int .i64 0,.int .i64 0,.int .i64 0,.int .i64 0] [(0,1),(1,2),(3,2)]:=.of (by kernel_rfl) (by kernel_rfl)
instance:FO prog 132 0 0 9:=.of (by kernel_rfl)
instance:FO prog 132 1 1 42:=.of (by kernel_rfl)
instance:FO prog 132 2 3 42:=.of (by kernel_rfl)
instance:TI prog 135 false 1:=.of (by kernel_rfl)
instance:SE prog 135 9:=⟨underlying135⟩
instance:TZ prog 135 [.slice none 0 0]:=.of (by kernel_rfl) rfl
instance:TI prog 139 false 1:=.of (by kernel_rfl)
instance:SE prog 139 40:=⟨underlying139⟩
instance:TZ prog 139 [.slice none 0 0]:=.of (by kernel_rfl) rfl
instance:TI prog 173 true 7:=.of (by kernel_rfl)
instance:TZ prog 173 [.int .i64 0,.int .i64 0,.int .i64 0,.int .i64 0,.int .i64 0,.int .i64 0,.int .i64 0]:=.of (by kernel_rfl) rfl
instance:SP prog 173 [.int .i64 0,.int .i64 0,.int .i64 0,.int .i64 0,.int .i64 0,.int .i64 0,.int .i64 0] [(0,3),(3,2),(5,1),(6,1)]:=.of (by kernel_rfl) (by kernel_rfl)
instance:FO prog 173 0 0 40:=.of (by kernel_rfl)
instance:FO prog 173 1 3 42:=.of (by kernel_rfl)
instance:FO prog 173 2 5 3:=.of (by kernel_rfl)
instance:FO prog 173 3 6 3:=.of (by kernel_rfl)
instance:TI prog 207 true 2:=.of (by kernel_rfl)
instance:TZ prog 207 [.int .i64 0,.int .i64 0]:=.of (by kernel_rfl) rfl
instance:SP prog 207 [.int .i64 0,.int .i64 0] [(0,1),(1,1)]:=.of (by kernel_rfl) (by kernel_rfl)
instance:FO prog 207 0 0 3:=.of (by kernel_rfl)
instance:FO prog 207 1 1 3:=.of (by kernel_rfl)
instance:TI prog 299 false 1:=.of (by kernel_rfl)
instance:SE prog 299 1:=⟨underlying299⟩
instance:TZ prog 299 [.slice none 0 0]:=.of (by kernel_rfl) rfl
instance:TI prog 307 false 1:=.of (by kernel_rfl)
instance:SE prog 307 42:=⟨underlying307⟩
instance:TZ prog 307 [.slice none 0 0]:=.of (by kernel_rfl) rfl
instance:TI prog 314 false 1:=.of (by kernel_rfl)
instance:SE prog 314 64:=⟨underlying314⟩
instance:TZ prog 314 [.slice none 0 0]:=.of (by kernel_rfl) rfl
def LL (a b:Int):Nat->Int->Int
 | 0,_=>0
 | n+1,m=>bif es m a && es m b then m else LL a b n (m+1)
end Go.Proofs.YthpgjkjgkhjjlaaGreatDoor
