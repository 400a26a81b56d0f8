/- The types of this program as instances: size, zero value, whether it is a struct or array, a slice's element. -/
import Derived.Test.YtemkgmgdjbpljaaDoorSet
import Derived.Test.YtemkgmgdjbpljaaDoorProg
namespace Go.Proofs.YtemkgmgdjbpljaaDoor
open Go.RowKit
instance : Ty Tryd.prog 2 (.int .i64 0) 1 false := ⟨by kernel_rfl, by kernel_rfl⟩
instance : IntTy Tryd.prog 2 := ⟨Tryd.underlying2⟩
instance : ByTy Tryd.prog 2 8 := ⟨by kernel_rfl⟩
instance : Ty Tryd.prog 3 (.int .i64 0) 1 false := ⟨by kernel_rfl, by kernel_rfl⟩
instance : IntTy Tryd.prog 3 := ⟨Tryd.underlying3⟩
instance : ByTy Tryd.prog 3 8 := ⟨by kernel_rfl⟩
instance : Ty Tryd.prog 4 (.bool false) 1 false := ⟨by kernel_rfl, by kernel_rfl⟩
instance : ByTy Tryd.prog 4 1 := ⟨by kernel_rfl⟩
instance : Ty Tryd.prog 5 (.int .u8 0) 1 false := ⟨by kernel_rfl, by kernel_rfl⟩
instance : ByTy Tryd.prog 5 1 := ⟨by kernel_rfl⟩
instance : Ty Tryd.prog 9 (.string ⟨#[]⟩) 1 false := ⟨by kernel_rfl, by kernel_rfl⟩
instance : ByTy Tryd.prog 9 16 := ⟨by kernel_rfl⟩
instance : Ty Tryd.prog 12 (.int .u64 0) 1 false := ⟨by kernel_rfl, by kernel_rfl⟩
instance : ByTy Tryd.prog 12 8 := ⟨by kernel_rfl⟩
instance : Ty Tryd.prog 21 (.int .i32 0) 1 false := ⟨by kernel_rfl, by kernel_rfl⟩
instance : ByTy Tryd.prog 21 4 := ⟨by kernel_rfl⟩
instance : Ty Tryd.prog 22 (.slice none 0 0) 1 false := ⟨by kernel_rfl, by kernel_rfl⟩
instance : SlTy Tryd.prog 22 5 := ⟨Tryd.underlying22⟩
instance : ByTy Tryd.prog 22 24 := ⟨by kernel_rfl⟩
instance : Ty Tryd.prog 27 (.slice none 0 0) 1 false := ⟨by kernel_rfl, by kernel_rfl⟩
instance : SlTy Tryd.prog 27 3 := ⟨Tryd.underlying27⟩
instance : ByTy Tryd.prog 27 24 := ⟨by kernel_rfl⟩
instance : Ty Tryd.prog 33 (.slice none 0 0) 1 false := ⟨by kernel_rfl, by kernel_rfl⟩
instance : SlTy Tryd.prog 33 38 := ⟨Tryd.underlying33⟩
instance : ByTy Tryd.prog 33 24 := ⟨by kernel_rfl⟩
instance : Ty Tryd.prog 37 (.agg #[(.int .i64 0), (.int .i64 0), (.bool false)]) 3 true := ⟨by kernel_rfl, by kernel_rfl⟩
instance : ByTy Tryd.prog 37 24 := ⟨by kernel_rfl⟩
instance : Ty Tryd.prog 38 (.agg #[(.int .i64 0), (.int .i64 0), (.bool false)]) 3 true := ⟨by kernel_rfl, by kernel_rfl⟩
instance : ByTy Tryd.prog 38 24 := ⟨by kernel_rfl⟩
instance : Ty Tryd.prog 39 (.pointer none) 1 false := ⟨by kernel_rfl, by kernel_rfl⟩
instance : ByTy Tryd.prog 39 8 := ⟨by kernel_rfl⟩
instance : Ty Tryd.prog 47 (.agg #[(.slice none 0 0), (.int .i64 0)]) 2 true := ⟨by kernel_rfl, by kernel_rfl⟩
instance : ByTy Tryd.prog 47 32 := ⟨by kernel_rfl⟩
instance : Ty Tryd.prog 48 (.agg #[(.slice none 0 0), (.int .i64 0)]) 2 true := ⟨by kernel_rfl, by kernel_rfl⟩
instance : ByTy Tryd.prog 48 32 := ⟨by kernel_rfl⟩
instance : Ty Tryd.prog 50 (.slice none 0 0) 1 false := ⟨by kernel_rfl, by kernel_rfl⟩
instance : SlTy Tryd.prog 50 9 := ⟨Tryd.underlying50⟩
instance : ByTy Tryd.prog 50 24 := ⟨by kernel_rfl⟩
instance : Ty Tryd.prog 59 (.int .u32 0) 1 false := ⟨by kernel_rfl, by kernel_rfl⟩
instance : ByTy Tryd.prog 59 4 := ⟨by kernel_rfl⟩
instance : Ty Tryd.prog 63 (.pointer none) 1 false := ⟨by kernel_rfl, by kernel_rfl⟩
instance : ByTy Tryd.prog 63 8 := ⟨by kernel_rfl⟩
instance : Ty Tryd.prog 66 (.agg #[(.int .u64 0), (.int .u64 0), (.int .u32 0), (.int .u8 0), (.int .u8 0), (.int .u8 0), (.int .u8 0), .nilFunc, (.pointer none), (.int .i32 0), (.int .i32 0)]) 11 true := ⟨by kernel_rfl, by kernel_rfl⟩
instance : ByTy Tryd.prog 66 48 := ⟨by kernel_rfl⟩
end Go.Proofs.YtemkgmgdjbpljaaDoor
