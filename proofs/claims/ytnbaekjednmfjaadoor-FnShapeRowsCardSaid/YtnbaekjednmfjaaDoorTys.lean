/- The types of this program as instances: size, zero value, whether it is a struct or array, a slice's element. -/
import Derived.Test.YtnbaekjednmfjaaDoorFind
import Derived.Test.YtnbaekjednmfjaaDoorProg
namespace Go.Proofs.YtnbaekjednmfjaaDoor
open Go.RowKit
instance : Ty Tryd.prog 2 (.int .i64 0) 1 false := ⟨by kernel_rfl, by kernel_rfl⟩
instance : IntTy Tryd.prog 2 := ⟨Tryd.underlying2⟩
instance : ByTy Tryd.prog 2 8 := ⟨by kernel_rfl⟩
instance : Ty Tryd.prog 3 (.int .i64 0) 1 false := ⟨by kernel_rfl, by kernel_rfl⟩
instance : IntTy Tryd.prog 3 := ⟨Tryd.underlying3⟩
instance : ByTy Tryd.prog 3 8 := ⟨by kernel_rfl⟩
instance : Ty Tryd.prog 4 (.bool false) 1 false := ⟨by kernel_rfl, by kernel_rfl⟩
instance : ByTy Tryd.prog 4 1 := ⟨by kernel_rfl⟩
instance : Ty Tryd.prog 5 (.int .u8 0) 1 false := ⟨by kernel_rfl, by kernel_rfl⟩
instance : ByTy Tryd.prog 5 1 := ⟨by kernel_rfl⟩
instance : Ty Tryd.prog 9 (.string ⟨#[]⟩) 1 false := ⟨by kernel_rfl, by kernel_rfl⟩
instance : ByTy Tryd.prog 9 16 := ⟨by kernel_rfl⟩
instance : Ty Tryd.prog 12 (.int .u64 0) 1 false := ⟨by kernel_rfl, by kernel_rfl⟩
instance : ByTy Tryd.prog 12 8 := ⟨by kernel_rfl⟩
instance : Ty Tryd.prog 21 (.int .i32 0) 1 false := ⟨by kernel_rfl, by kernel_rfl⟩
instance : ByTy Tryd.prog 21 4 := ⟨by kernel_rfl⟩
instance : Ty Tryd.prog 22 (.slice none 0 0) 1 false := ⟨by kernel_rfl, by kernel_rfl⟩
instance : SlTy Tryd.prog 22 5 := ⟨Tryd.underlying22⟩
instance : ByTy Tryd.prog 22 24 := ⟨by kernel_rfl⟩
instance : Ty Tryd.prog 23 (.slice none 0 0) 1 false := ⟨by kernel_rfl, by kernel_rfl⟩
instance : SlTy Tryd.prog 23 35 := ⟨Tryd.underlying23⟩
instance : ByTy Tryd.prog 23 24 := ⟨by kernel_rfl⟩
instance : Ty Tryd.prog 25 (.slice none 0 0) 1 false := ⟨by kernel_rfl, by kernel_rfl⟩
instance : SlTy Tryd.prog 25 29 := ⟨Tryd.underlying25⟩
instance : ByTy Tryd.prog 25 24 := ⟨by kernel_rfl⟩
instance : Ty Tryd.prog 27 (.slice none 0 0) 1 false := ⟨by kernel_rfl, by kernel_rfl⟩
instance : SlTy Tryd.prog 27 9 := ⟨Tryd.underlying27⟩
instance : ByTy Tryd.prog 27 24 := ⟨by kernel_rfl⟩
instance : Ty Tryd.prog 28 (.agg #[(.string ⟨#[]⟩), (.slice none 0 0), (.int .i64 0)]) 3 true := ⟨by kernel_rfl, by kernel_rfl⟩
instance : ByTy Tryd.prog 28 48 := ⟨by kernel_rfl⟩
instance : Ty Tryd.prog 29 (.agg #[(.string ⟨#[]⟩), (.slice none 0 0), (.int .i64 0)]) 3 true := ⟨by kernel_rfl, by kernel_rfl⟩
instance : ByTy Tryd.prog 29 48 := ⟨by kernel_rfl⟩
instance : Ty Tryd.prog 31 (.slice none 0 0) 1 false := ⟨by kernel_rfl, by kernel_rfl⟩
instance : SlTy Tryd.prog 31 66 := ⟨Tryd.underlying31⟩
instance : ByTy Tryd.prog 31 24 := ⟨by kernel_rfl⟩
instance : Ty Tryd.prog 32 (.agg #[(.slice none 0 0), (.slice none 0 0)]) 2 true := ⟨by kernel_rfl, by kernel_rfl⟩
instance : ByTy Tryd.prog 32 48 := ⟨by kernel_rfl⟩
instance : Ty Tryd.prog 33 (.agg #[(.slice none 0 0), (.slice none 0 0)]) 2 true := ⟨by kernel_rfl, by kernel_rfl⟩
instance : ByTy Tryd.prog 33 48 := ⟨by kernel_rfl⟩
instance : Ty Tryd.prog 34 (.agg #[(.string ⟨#[]⟩), (.slice none 0 0), (.slice none 0 0)]) 3 true := ⟨by kernel_rfl, by kernel_rfl⟩
instance : ByTy Tryd.prog 34 64 := ⟨by kernel_rfl⟩
instance : Ty Tryd.prog 35 (.agg #[(.string ⟨#[]⟩), (.slice none 0 0), (.slice none 0 0)]) 3 true := ⟨by kernel_rfl, by kernel_rfl⟩
instance : ByTy Tryd.prog 35 64 := ⟨by kernel_rfl⟩
instance : Ty Tryd.prog 42 (.pointer none) 1 false := ⟨by kernel_rfl, by kernel_rfl⟩
instance : ByTy Tryd.prog 42 8 := ⟨by kernel_rfl⟩
instance : Ty Tryd.prog 56 (.agg #[(.slice none 0 0), (.int .i64 0)]) 2 true := ⟨by kernel_rfl, by kernel_rfl⟩
instance : ByTy Tryd.prog 56 32 := ⟨by kernel_rfl⟩
instance : Ty Tryd.prog 57 (.agg #[(.slice none 0 0), (.int .i64 0)]) 2 true := ⟨by kernel_rfl, by kernel_rfl⟩
instance : ByTy Tryd.prog 57 32 := ⟨by kernel_rfl⟩
instance : Ty Tryd.prog 66 (.slice none 0 0) 1 false := ⟨by kernel_rfl, by kernel_rfl⟩
instance : SlTy Tryd.prog 66 3 := ⟨Tryd.underlying66⟩
instance : ByTy Tryd.prog 66 24 := ⟨by kernel_rfl⟩
instance : Ty Tryd.prog 72 (.slice none 0 0) 1 false := ⟨by kernel_rfl, by kernel_rfl⟩
instance : SlTy Tryd.prog 72 27 := ⟨Tryd.underlying72⟩
instance : ByTy Tryd.prog 72 24 := ⟨by kernel_rfl⟩
instance : Ty Tryd.prog 83 (.int .u32 0) 1 false := ⟨by kernel_rfl, by kernel_rfl⟩
instance : ByTy Tryd.prog 83 4 := ⟨by kernel_rfl⟩
instance : Ty Tryd.prog 87 (.pointer none) 1 false := ⟨by kernel_rfl, by kernel_rfl⟩
instance : ByTy Tryd.prog 87 8 := ⟨by kernel_rfl⟩
instance : Ty Tryd.prog 90 (.agg #[(.int .u64 0), (.int .u64 0), (.int .u32 0), (.int .u8 0), (.int .u8 0), (.int .u8 0), (.int .u8 0), .nilFunc, (.pointer none), (.int .i32 0), (.int .i32 0)]) 11 true := ⟨by kernel_rfl, by kernel_rfl⟩
instance : ByTy Tryd.prog 90 48 := ⟨by kernel_rfl⟩
end Go.Proofs.YtnbaekjednmfjaaDoor
