/- The types of this program as instances: size, zero value, whether it is a struct or array, a slice's element. -/
import Derived.Test.YtnlhiamjndifoaaDoorFind
import Derived.Test.YtnlhiamjndifoaaDoorProg
namespace Go.Proofs.YtnlhiamjndifoaaDoor
open Go.RowKit
instance : Ty Tryd.prog 2 (.int .i64 0) 1 false := ⟨by kernel_rfl, by kernel_rfl⟩
instance : IntTy Tryd.prog 2 := ⟨Tryd.underlying2⟩
instance : ByTy Tryd.prog 2 8 := ⟨by kernel_rfl⟩
instance : Ty Tryd.prog 3 (.int .i64 0) 1 false := ⟨by kernel_rfl, by kernel_rfl⟩
instance : IntTy Tryd.prog 3 := ⟨Tryd.underlying3⟩
instance : ByTy Tryd.prog 3 8 := ⟨by kernel_rfl⟩
instance : Ty Tryd.prog 4 (.bool false) 1 false := ⟨by kernel_rfl, by kernel_rfl⟩
instance : ByTy Tryd.prog 4 1 := ⟨by kernel_rfl⟩
instance : Ty Tryd.prog 5 (.int .u8 0) 1 false := ⟨by kernel_rfl, by kernel_rfl⟩
instance : ByTy Tryd.prog 5 1 := ⟨by kernel_rfl⟩
instance : Ty Tryd.prog 9 (.string ⟨#[]⟩) 1 false := ⟨by kernel_rfl, by kernel_rfl⟩
instance : ByTy Tryd.prog 9 16 := ⟨by kernel_rfl⟩
instance : Ty Tryd.prog 12 (.int .u64 0) 1 false := ⟨by kernel_rfl, by kernel_rfl⟩
instance : ByTy Tryd.prog 12 8 := ⟨by kernel_rfl⟩
instance : Ty Tryd.prog 21 (.int .i32 0) 1 false := ⟨by kernel_rfl, by kernel_rfl⟩
instance : ByTy Tryd.prog 21 4 := ⟨by kernel_rfl⟩
instance : Ty Tryd.prog 22 (.slice none 0 0) 1 false := ⟨by kernel_rfl, by kernel_rfl⟩
instance : SlTy Tryd.prog 22 5 := ⟨Tryd.underlying22⟩
instance : ByTy Tryd.prog 22 24 := ⟨by kernel_rfl⟩
instance : Ty Tryd.prog 23 (.slice none 0 0) 1 false := ⟨by kernel_rfl, by kernel_rfl⟩
instance : SlTy Tryd.prog 23 24 := ⟨Tryd.underlying23⟩
instance : ByTy Tryd.prog 23 24 := ⟨by kernel_rfl⟩
instance : Ty Tryd.prog 24 (.slice none 0 0) 1 false := ⟨by kernel_rfl, by kernel_rfl⟩
instance : SlTy Tryd.prog 24 30 := ⟨Tryd.underlying24⟩
instance : ByTy Tryd.prog 24 24 := ⟨by kernel_rfl⟩
instance : Ty Tryd.prog 25 (.agg #[(.slice none 0 0), (.slice none 0 0)]) 2 true := ⟨by kernel_rfl, by kernel_rfl⟩
instance : ByTy Tryd.prog 25 48 := ⟨by kernel_rfl⟩
instance : Ty Tryd.prog 26 (.agg #[(.slice none 0 0), (.slice none 0 0)]) 2 true := ⟨by kernel_rfl, by kernel_rfl⟩
instance : ByTy Tryd.prog 26 48 := ⟨by kernel_rfl⟩
instance : Ty Tryd.prog 29 (.agg #[(.int .i64 0), (.int .i64 0), (.int .i64 0)]) 3 true := ⟨by kernel_rfl, by kernel_rfl⟩
instance : ByTy Tryd.prog 29 24 := ⟨by kernel_rfl⟩
instance : Ty Tryd.prog 30 (.agg #[(.int .i64 0), (.int .i64 0), (.int .i64 0)]) 3 true := ⟨by kernel_rfl, by kernel_rfl⟩
instance : ByTy Tryd.prog 30 24 := ⟨by kernel_rfl⟩
instance : Ty Tryd.prog 34 (.pointer none) 1 false := ⟨by kernel_rfl, by kernel_rfl⟩
instance : ByTy Tryd.prog 34 8 := ⟨by kernel_rfl⟩
instance : Ty Tryd.prog 36 (.map none) 1 false := ⟨by kernel_rfl, by kernel_rfl⟩
instance : MapTy Tryd.prog 36 3 4 := ⟨Tryd.underlying36⟩
instance : ByTy Tryd.prog 36 8 := ⟨by kernel_rfl⟩
instance : Ty Tryd.prog 41 (.slice none 0 0) 1 false := ⟨by kernel_rfl, by kernel_rfl⟩
instance : SlTy Tryd.prog 41 3 := ⟨Tryd.underlying41⟩
instance : ByTy Tryd.prog 41 24 := ⟨by kernel_rfl⟩
instance : Ty Tryd.prog 51 (.slice none 0 0) 1 false := ⟨by kernel_rfl, by kernel_rfl⟩
instance : SlTy Tryd.prog 51 63 := ⟨Tryd.underlying51⟩
instance : ByTy Tryd.prog 51 24 := ⟨by kernel_rfl⟩
instance : Ty Tryd.prog 53 (.agg #[(.slice none 0 0), (.int .i64 0)]) 2 true := ⟨by kernel_rfl, by kernel_rfl⟩
instance : ByTy Tryd.prog 53 32 := ⟨by kernel_rfl⟩
instance : Ty Tryd.prog 54 (.agg #[(.slice none 0 0), (.int .i64 0)]) 2 true := ⟨by kernel_rfl, by kernel_rfl⟩
instance : ByTy Tryd.prog 54 32 := ⟨by kernel_rfl⟩
instance : Ty Tryd.prog 58 (.slice none 0 0) 1 false := ⟨by kernel_rfl, by kernel_rfl⟩
instance : SlTy Tryd.prog 58 9 := ⟨Tryd.underlying58⟩
instance : ByTy Tryd.prog 58 24 := ⟨by kernel_rfl⟩
instance : Ty Tryd.prog 62 (.agg #[(.int .i64 0), (.bool false), (.int .i64 0), (.int .i64 0)]) 4 true := ⟨by kernel_rfl, by kernel_rfl⟩
instance : ByTy Tryd.prog 62 32 := ⟨by kernel_rfl⟩
instance : Ty Tryd.prog 63 (.agg #[(.int .i64 0), (.bool false), (.int .i64 0), (.int .i64 0)]) 4 true := ⟨by kernel_rfl, by kernel_rfl⟩
instance : ByTy Tryd.prog 63 32 := ⟨by kernel_rfl⟩
instance : Ty Tryd.prog 73 (.int .u32 0) 1 false := ⟨by kernel_rfl, by kernel_rfl⟩
instance : ByTy Tryd.prog 73 4 := ⟨by kernel_rfl⟩
instance : Ty Tryd.prog 77 (.pointer none) 1 false := ⟨by kernel_rfl, by kernel_rfl⟩
instance : ByTy Tryd.prog 77 8 := ⟨by kernel_rfl⟩
instance : Ty Tryd.prog 80 (.agg #[(.int .u64 0), (.int .u64 0), (.int .u32 0), (.int .u8 0), (.int .u8 0), (.int .u8 0), (.int .u8 0), .nilFunc, (.pointer none), (.int .i32 0), (.int .i32 0)]) 11 true := ⟨by kernel_rfl, by kernel_rfl⟩
instance : ByTy Tryd.prog 80 48 := ⟨by kernel_rfl⟩
end Go.Proofs.YtnlhiamjndifoaaDoor
