/-
  What the loaded program says of its types and functions, for the walks.
-/
import Derived.Test.YtfhldfjknagidaaDoorVKj
import Derived.Test.YtfhldfjknagidaaDoorProg
set_option linter.unusedSimpArgs false
set_option linter.unusedVariables false
namespace Go.Proofs.YtfhldfjknagidaaDoor
open Go.VK
theorem Tryd.mixed : Tryd.prog.follows .mixedOrders = true := by kernel_rfl
theorem Tryd.to0 : TOne Tryd.prog 0 := ⟨Tryd.isAgg0, Tryd.sizeOf0⟩
theorem Tryd.to3 : TOne Tryd.prog 3 := ⟨Tryd.isAgg3, Tryd.sizeOf3⟩
theorem Tryd.to4 : TOne Tryd.prog 4 := ⟨Tryd.isAgg4, Tryd.sizeOf4⟩
theorem Tryd.to5 : TOne Tryd.prog 5 := ⟨Tryd.isAgg5, Tryd.sizeOf5⟩
theorem Tryd.to9 : TOne Tryd.prog 9 := ⟨Tryd.isAgg9, Tryd.sizeOf9⟩
theorem Tryd.to22 : TOne Tryd.prog 22 := ⟨Tryd.isAgg22, Tryd.sizeOf22⟩
theorem Tryd.to23 : TOne Tryd.prog 23 := ⟨Tryd.isAgg23, Tryd.sizeOf23⟩
theorem Tryd.to25 : TOne Tryd.prog 25 := ⟨Tryd.isAgg25, Tryd.sizeOf25⟩
theorem Tryd.to27 : TOne Tryd.prog 27 := ⟨Tryd.isAgg27, Tryd.sizeOf27⟩
theorem Tryd.to29 : TOne Tryd.prog 29 := ⟨Tryd.isAgg29, Tryd.sizeOf29⟩
theorem Tryd.ta33 : TAgg Tryd.prog 33 32 := ⟨Tryd.isAgg33, Tryd.sizeOf33⟩
theorem Tryd.ta34 : TAgg Tryd.prog 34 32 := ⟨Tryd.isAgg34, Tryd.sizeOf34⟩
theorem Tryd.ta36 : TAgg Tryd.prog 36 35 := ⟨Tryd.isAgg36, Tryd.sizeOf36⟩
theorem Tryd.ta38 : TAgg Tryd.prog 38 38 := ⟨Tryd.isAgg38, Tryd.sizeOf38⟩
theorem Tryd.to39 : TOne Tryd.prog 39 := ⟨Tryd.isAgg39, Tryd.sizeOf39⟩
theorem Tryd.to46 : TOne Tryd.prog 46 := ⟨Tryd.isAgg46, Tryd.sizeOf46⟩
theorem Tryd.ta48 : TAgg Tryd.prog 48 4 := ⟨Tryd.isAgg48, Tryd.sizeOf48⟩
theorem Tryd.ta50 : TAgg Tryd.prog 50 3 := ⟨Tryd.isAgg50, Tryd.sizeOf50⟩
theorem Tryd.to58 : TOne Tryd.prog 58 := ⟨Tryd.isAgg58, Tryd.sizeOf58⟩
theorem Tryd.to61 : TOne Tryd.prog 61 := ⟨Tryd.isAgg61, Tryd.sizeOf61⟩
theorem Tryd.ta64 : TAgg Tryd.prog 64 34 := ⟨Tryd.isAgg64, Tryd.sizeOf64⟩
theorem Tryd.to66 : TOne Tryd.prog 66 := ⟨Tryd.isAgg66, Tryd.sizeOf66⟩
theorem Tryd.to69 : TOne Tryd.prog 69 := ⟨Tryd.isAgg69, Tryd.sizeOf69⟩
theorem Tryd.ta78 : TAgg Tryd.prog 78 78 := ⟨Tryd.isAgg78, Tryd.sizeOf78⟩
theorem Tryd.to80 : TOne Tryd.prog 80 := ⟨Tryd.isAgg80, Tryd.sizeOf80⟩
theorem Tryd.to81 : TOne Tryd.prog 81 := ⟨Tryd.isAgg81, Tryd.sizeOf81⟩
theorem Tryd.ta83 : TAgg Tryd.prog 83 3 := ⟨Tryd.isAgg83, Tryd.sizeOf83⟩
theorem Tryd.to84 : TOne Tryd.prog 84 := ⟨Tryd.isAgg84, Tryd.sizeOf84⟩
theorem Tryd.to93 : TOne Tryd.prog 93 := ⟨Tryd.isAgg93, Tryd.sizeOf93⟩
theorem Tryd.to95 : TOne Tryd.prog 95 := ⟨Tryd.isAgg95, Tryd.sizeOf95⟩
theorem Tryd.to101 : TOne Tryd.prog 101 := ⟨Tryd.isAgg101, Tryd.sizeOf101⟩
theorem Tryd.ta103 : TAgg Tryd.prog 103 2 := ⟨Tryd.isAgg103, Tryd.sizeOf103⟩
theorem Tryd.ta105 : TAgg Tryd.prog 105 5 := ⟨Tryd.isAgg105, Tryd.sizeOf105⟩
theorem Tryd.ta106 : TAgg Tryd.prog 106 34 := ⟨Tryd.isAgg106, Tryd.sizeOf106⟩
theorem Tryd.to117 : TOne Tryd.prog 117 := ⟨Tryd.isAgg117, Tryd.sizeOf117⟩
theorem Tryd.to131 : TOne Tryd.prog 131 := ⟨Tryd.isAgg131, Tryd.sizeOf131⟩
theorem Tryd.to134 : TOne Tryd.prog 134 := ⟨Tryd.isAgg134, Tryd.sizeOf134⟩
theorem Tryd.to135 : TOne Tryd.prog 135 := ⟨Tryd.isAgg135, Tryd.sizeOf135⟩
theorem Tryd.ta151 : TAgg Tryd.prog 151 8 := ⟨Tryd.isAgg151, Tryd.sizeOf151⟩
theorem Tryd.ta152 : TAgg Tryd.prog 152 8 := ⟨Tryd.isAgg152, Tryd.sizeOf152⟩
theorem Tryd.to160 : TOne Tryd.prog 160 := ⟨Tryd.isAgg160, Tryd.sizeOf160⟩
theorem Tryd.to164 : TOne Tryd.prog 164 := ⟨Tryd.isAgg164, Tryd.sizeOf164⟩
theorem Tryd.ta167 : TAgg Tryd.prog 167 64 := ⟨Tryd.isAgg167, Tryd.sizeOf167⟩
theorem Tryd.fa36_0 : FAddr Tryd.prog 36 0 0 := faddr_of Tryd.underlying36 rfl rfl Tryd.sizeOf3 rfl
theorem Tryd.fa36_1 : FAddr Tryd.prog 36 1 1 := faddr_of Tryd.underlying36 rfl rfl Tryd.sizeOf9 rfl
theorem Tryd.fa36_2 : FAddr Tryd.prog 36 2 2 := faddr_of Tryd.underlying36 rfl rfl Tryd.sizeOf9 rfl
theorem Tryd.fa36_3 : FAddr Tryd.prog 36 3 3 := faddr_of Tryd.underlying36 rfl rfl Tryd.sizeOf34 rfl
theorem Tryd.fa38_0 : FAddr Tryd.prog 38 0 0 := faddr_of Tryd.underlying38 rfl rfl Tryd.sizeOf36 rfl
theorem Tryd.fa38_1 : FAddr Tryd.prog 38 1 35 := faddr_of Tryd.underlying38 rfl rfl Tryd.sizeOf3 rfl
theorem Tryd.fa38_2 : FAddr Tryd.prog 38 2 36 := faddr_of Tryd.underlying38 rfl rfl Tryd.sizeOf3 rfl
theorem Tryd.fa38_3 : FAddr Tryd.prog 38 3 37 := faddr_of Tryd.underlying38 rfl rfl Tryd.sizeOf29 rfl
theorem Tryd.fa48_0 : FAddr Tryd.prog 48 0 0 := faddr_of Tryd.underlying48 rfl rfl Tryd.sizeOf25 rfl
theorem Tryd.fa48_1 : FAddr Tryd.prog 48 1 1 := faddr_of Tryd.underlying48 rfl rfl Tryd.sizeOf25 rfl
theorem Tryd.fa48_2 : FAddr Tryd.prog 48 2 2 := faddr_of Tryd.underlying48 rfl rfl Tryd.sizeOf29 rfl
theorem Tryd.fa48_3 : FAddr Tryd.prog 48 3 3 := faddr_of Tryd.underlying48 rfl rfl Tryd.sizeOf29 rfl
theorem Tryd.fa64_0 : FAddr Tryd.prog 64 0 0 := faddr_of Tryd.underlying64 rfl rfl Tryd.sizeOf34 rfl
theorem Tryd.fa64_1 : FAddr Tryd.prog 64 1 32 := faddr_of Tryd.underlying64 rfl rfl Tryd.sizeOf9 rfl
theorem Tryd.fa64_2 : FAddr Tryd.prog 64 2 33 := faddr_of Tryd.underlying64 rfl rfl Tryd.sizeOf4 rfl
theorem Tryd.fa78_0 : FAddr Tryd.prog 78 0 0 := faddr_of Tryd.underlying78 rfl rfl Tryd.sizeOf3 rfl
theorem Tryd.fa78_1 : FAddr Tryd.prog 78 1 1 := faddr_of Tryd.underlying78 rfl rfl Tryd.sizeOf3 rfl
theorem Tryd.fa78_2 : FAddr Tryd.prog 78 2 2 := faddr_of Tryd.underlying78 rfl rfl Tryd.sizeOf36 rfl
theorem Tryd.fa78_3 : FAddr Tryd.prog 78 3 37 := faddr_of Tryd.underlying78 rfl rfl Tryd.sizeOf3 rfl
theorem Tryd.fa78_4 : FAddr Tryd.prog 78 4 38 := faddr_of Tryd.underlying78 rfl rfl Tryd.sizeOf3 rfl
theorem Tryd.fa78_5 : FAddr Tryd.prog 78 5 39 := faddr_of Tryd.underlying78 rfl rfl Tryd.sizeOf3 rfl
theorem Tryd.fa78_6 : FAddr Tryd.prog 78 6 40 := faddr_of Tryd.underlying78 rfl rfl Tryd.sizeOf38 rfl
theorem Tryd.fa83_0 : FAddr Tryd.prog 83 0 0 := faddr_of Tryd.underlying83 rfl rfl Tryd.sizeOf80 rfl
theorem Tryd.fa83_1 : FAddr Tryd.prog 83 1 1 := faddr_of Tryd.underlying83 rfl rfl Tryd.sizeOf80 rfl
theorem Tryd.fa83_2 : FAddr Tryd.prog 83 2 2 := faddr_of Tryd.underlying83 rfl rfl Tryd.sizeOf81 rfl
theorem Tryd.fa105_0 : FAddr Tryd.prog 105 0 0 := faddr_of Tryd.underlying105 rfl rfl Tryd.sizeOf3 rfl
theorem Tryd.fa105_1 : FAddr Tryd.prog 105 1 1 := faddr_of Tryd.underlying105 rfl rfl Tryd.sizeOf3 rfl
theorem Tryd.fa105_2 : FAddr Tryd.prog 105 2 2 := faddr_of Tryd.underlying105 rfl rfl Tryd.sizeOf4 rfl
theorem Tryd.fa105_3 : FAddr Tryd.prog 105 3 3 := faddr_of Tryd.underlying105 rfl rfl Tryd.sizeOf4 rfl
theorem Tryd.fa105_4 : FAddr Tryd.prog 105 4 4 := faddr_of Tryd.underlying105 rfl rfl Tryd.sizeOf9 rfl
theorem Tryd.fa106_0 : FAddr Tryd.prog 106 0 0 := faddr_of Tryd.underlying106 rfl rfl Tryd.sizeOf34 rfl
theorem Tryd.fa106_2 : FAddr Tryd.prog 106 2 33 := faddr_of Tryd.underlying106 rfl rfl Tryd.sizeOf4 rfl
theorem Tryd.tb34 : TBytes Tryd.prog 34 5 32 := ⟨Tryd.underlying34, Tryd.underlying5, Tryd.sizeOf5, by kernel_rfl⟩
theorem Tryd.bt36 : BuildT Tryd.prog 36 (fun x => [(0, 1), (1, 1), (2, 1), (3, 32)][x]?) [.int .i64 0, .string ⟨#[]⟩, .string ⟨#[]⟩, .int .u8 0, .int .u8 0, .int .u8 0, .int .u8 0, .int .u8 0, .int .u8 0, .int .u8 0, .int .u8 0, .int .u8 0, .int .u8 0, .int .u8 0, .int .u8 0, .int .u8 0, .int .u8 0, .int .u8 0, .int .u8 0, .int .u8 0, .int .u8 0, .int .u8 0, .int .u8 0, .int .u8 0, .int .u8 0, .int .u8 0, .int .u8 0, .int .u8 0, .int .u8 0, .int .u8 0, .int .u8 0, .int .u8 0, .int .u8 0, .int .u8 0, .int .u8 0] := fun ps l w h => by
  have h2 : Instr.fill (fun x => [(0, 1), (1, 1), (2, 1), (3, 32)][x]?) (Value.agg ([.int .i64 0, .string ⟨#[]⟩, .string ⟨#[]⟩, .int .u8 0, .int .u8 0, .int .u8 0, .int .u8 0, .int .u8 0, .int .u8 0, .int .u8 0, .int .u8 0, .int .u8 0, .int .u8 0, .int .u8 0, .int .u8 0, .int .u8 0, .int .u8 0, .int .u8 0, .int .u8 0, .int .u8 0, .int .u8 0, .int .u8 0, .int .u8 0, .int .u8 0, .int .u8 0, .int .u8 0, .int .u8 0, .int .u8 0, .int .u8 0, .int .u8 0, .int .u8 0, .int .u8 0, .int .u8 0, .int .u8 0, .int .u8 0] : List Value).toArray).cells ps = some l.toArray := h
  simp only [Instr.build, run_underlying Tryd.underlying36, Tryd.zeroValue36, Sem.run_bind, Result.andThen_ok]
  simp [h2]
theorem Tryd.bt38 : BuildT Tryd.prog 38 (fun x => [(0, 35), (35, 1), (36, 1), (37, 1)][x]?) [.int .i64 0, .string ⟨#[]⟩, .string ⟨#[]⟩, .int .u8 0, .int .u8 0, .int .u8 0, .int .u8 0, .int .u8 0, .int .u8 0, .int .u8 0, .int .u8 0, .int .u8 0, .int .u8 0, .int .u8 0, .int .u8 0, .int .u8 0, .int .u8 0, .int .u8 0, .int .u8 0, .int .u8 0, .int .u8 0, .int .u8 0, .int .u8 0, .int .u8 0, .int .u8 0, .int .u8 0, .int .u8 0, .int .u8 0, .int .u8 0, .int .u8 0, .int .u8 0, .int .u8 0, .int .u8 0, .int .u8 0, .int .u8 0, .int .i64 0, .int .i64 0, .slice none 0 0] := fun ps l w h => by
  have h2 : Instr.fill (fun x => [(0, 35), (35, 1), (36, 1), (37, 1)][x]?) (Value.agg ([.int .i64 0, .string ⟨#[]⟩, .string ⟨#[]⟩, .int .u8 0, .int .u8 0, .int .u8 0, .int .u8 0, .int .u8 0, .int .u8 0, .int .u8 0, .int .u8 0, .int .u8 0, .int .u8 0, .int .u8 0, .int .u8 0, .int .u8 0, .int .u8 0, .int .u8 0, .int .u8 0, .int .u8 0, .int .u8 0, .int .u8 0, .int .u8 0, .int .u8 0, .int .u8 0, .int .u8 0, .int .u8 0, .int .u8 0, .int .u8 0, .int .u8 0, .int .u8 0, .int .u8 0, .int .u8 0, .int .u8 0, .int .u8 0, .int .i64 0, .int .i64 0, .slice none 0 0] : List Value).toArray).cells ps = some l.toArray := h
  simp only [Instr.build, run_underlying Tryd.underlying38, Tryd.zeroValue38, Sem.run_bind, Result.andThen_ok]
  simp [h2]
theorem Tryd.bt48 : BuildT Tryd.prog 48 (fun x => [(0, 1), (1, 1), (2, 1), (3, 1)][x]?) [.slice none 0 0, .slice none 0 0, .slice none 0 0, .slice none 0 0] := fun ps l w h => by
  have h2 : Instr.fill (fun x => [(0, 1), (1, 1), (2, 1), (3, 1)][x]?) (Value.agg ([.slice none 0 0, .slice none 0 0, .slice none 0 0, .slice none 0 0] : List Value).toArray).cells ps = some l.toArray := h
  simp only [Instr.build, run_underlying Tryd.underlying48, Tryd.zeroValue48, Sem.run_bind, Result.andThen_ok]
  simp [h2]
theorem Tryd.bt64 : BuildT Tryd.prog 64 (fun x => [(0, 32), (32, 1), (33, 1)][x]?) [.int .u8 0, .int .u8 0, .int .u8 0, .int .u8 0, .int .u8 0, .int .u8 0, .int .u8 0, .int .u8 0, .int .u8 0, .int .u8 0, .int .u8 0, .int .u8 0, .int .u8 0, .int .u8 0, .int .u8 0, .int .u8 0, .int .u8 0, .int .u8 0, .int .u8 0, .int .u8 0, .int .u8 0, .int .u8 0, .int .u8 0, .int .u8 0, .int .u8 0, .int .u8 0, .int .u8 0, .int .u8 0, .int .u8 0, .int .u8 0, .int .u8 0, .int .u8 0, .string ⟨#[]⟩, .bool false] := fun ps l w h => by
  have h2 : Instr.fill (fun x => [(0, 32), (32, 1), (33, 1)][x]?) (Value.agg ([.int .u8 0, .int .u8 0, .int .u8 0, .int .u8 0, .int .u8 0, .int .u8 0, .int .u8 0, .int .u8 0, .int .u8 0, .int .u8 0, .int .u8 0, .int .u8 0, .int .u8 0, .int .u8 0, .int .u8 0, .int .u8 0, .int .u8 0, .int .u8 0, .int .u8 0, .int .u8 0, .int .u8 0, .int .u8 0, .int .u8 0, .int .u8 0, .int .u8 0, .int .u8 0, .int .u8 0, .int .u8 0, .int .u8 0, .int .u8 0, .int .u8 0, .int .u8 0, .string ⟨#[]⟩, .bool false] : List Value).toArray).cells ps = some l.toArray := h
  simp only [Instr.build, run_underlying Tryd.underlying64, Tryd.zeroValue64, Sem.run_bind, Result.andThen_ok]
  simp [h2]
theorem Tryd.bt83 : BuildT Tryd.prog 83 (fun x => [(0, 1), (1, 1), (2, 1)][x]?) [.map none, .map none, .map none] := fun ps l w h => by
  have h2 : Instr.fill (fun x => [(0, 1), (1, 1), (2, 1)][x]?) (Value.agg ([.map none, .map none, .map none] : List Value).toArray).cells ps = some l.toArray := h
  simp only [Instr.build, run_underlying Tryd.underlying83, Tryd.zeroValue83, Sem.run_bind, Result.andThen_ok]
  simp [h2]
theorem Tryd.bt106 : BuildT Tryd.prog 106 (fun x => [(0, 32), (32, 1), (33, 1)][x]?) [.int .u8 0, .int .u8 0, .int .u8 0, .int .u8 0, .int .u8 0, .int .u8 0, .int .u8 0, .int .u8 0, .int .u8 0, .int .u8 0, .int .u8 0, .int .u8 0, .int .u8 0, .int .u8 0, .int .u8 0, .int .u8 0, .int .u8 0, .int .u8 0, .int .u8 0, .int .u8 0, .int .u8 0, .int .u8 0, .int .u8 0, .int .u8 0, .int .u8 0, .int .u8 0, .int .u8 0, .int .u8 0, .int .u8 0, .int .u8 0, .int .u8 0, .int .u8 0, .string ⟨#[]⟩, .bool false] := fun ps l w h => by
  have h2 : Instr.fill (fun x => [(0, 32), (32, 1), (33, 1)][x]?) (Value.agg ([.int .u8 0, .int .u8 0, .int .u8 0, .int .u8 0, .int .u8 0, .int .u8 0, .int .u8 0, .int .u8 0, .int .u8 0, .int .u8 0, .int .u8 0, .int .u8 0, .int .u8 0, .int .u8 0, .int .u8 0, .int .u8 0, .int .u8 0, .int .u8 0, .int .u8 0, .int .u8 0, .int .u8 0, .int .u8 0, .int .u8 0, .int .u8 0, .int .u8 0, .int .u8 0, .int .u8 0, .int .u8 0, .int .u8 0, .int .u8 0, .int .u8 0, .int .u8 0, .string ⟨#[]⟩, .bool false] : List Value).toArray).cells ps = some l.toArray := h
  simp only [Instr.build, run_underlying Tryd.underlying106, Tryd.zeroValue106, Sem.run_bind, Result.andThen_ok]
  simp [h2]
theorem Tryd.app25_25 : AppT Tryd.prog 25 25 38 38 112 (.agg #[.int .i64 0, .string ⟨#[]⟩, .string ⟨#[]⟩, .int .u8 0, .int .u8 0, .int .u8 0, .int .u8 0, .int .u8 0, .int .u8 0, .int .u8 0, .int .u8 0, .int .u8 0, .int .u8 0, .int .u8 0, .int .u8 0, .int .u8 0, .int .u8 0, .int .u8 0, .int .u8 0, .int .u8 0, .int .u8 0, .int .u8 0, .int .u8 0, .int .u8 0, .int .u8 0, .int .u8 0, .int .u8 0, .int .u8 0, .int .u8 0, .int .u8 0, .int .u8 0, .int .u8 0, .int .u8 0, .int .u8 0, .int .u8 0, .int .i64 0, .int .i64 0, .slice none 0 0]) := ⟨Tryd.underlying25, .inl ⟨_, Tryd.underlying25⟩, by kernel_rfl, rfl⟩
theorem Tryd.app29_29 : AppT Tryd.prog 29 29 34 32 32 (.agg #[.int .u8 0, .int .u8 0, .int .u8 0, .int .u8 0, .int .u8 0, .int .u8 0, .int .u8 0, .int .u8 0, .int .u8 0, .int .u8 0, .int .u8 0, .int .u8 0, .int .u8 0, .int .u8 0, .int .u8 0, .int .u8 0, .int .u8 0, .int .u8 0, .int .u8 0, .int .u8 0, .int .u8 0, .int .u8 0, .int .u8 0, .int .u8 0, .int .u8 0, .int .u8 0, .int .u8 0, .int .u8 0, .int .u8 0, .int .u8 0, .int .u8 0, .int .u8 0]) := ⟨Tryd.underlying29, .inl ⟨_, Tryd.underlying29⟩, by kernel_rfl, rfl⟩
theorem Tryd.app61_61 : AppT Tryd.prog 61 61 64 34 56 (.agg #[.int .u8 0, .int .u8 0, .int .u8 0, .int .u8 0, .int .u8 0, .int .u8 0, .int .u8 0, .int .u8 0, .int .u8 0, .int .u8 0, .int .u8 0, .int .u8 0, .int .u8 0, .int .u8 0, .int .u8 0, .int .u8 0, .int .u8 0, .int .u8 0, .int .u8 0, .int .u8 0, .int .u8 0, .int .u8 0, .int .u8 0, .int .u8 0, .int .u8 0, .int .u8 0, .int .u8 0, .int .u8 0, .int .u8 0, .int .u8 0, .int .u8 0, .int .u8 0, .string ⟨#[]⟩, .bool false]) := ⟨Tryd.underlying61, .inl ⟨_, Tryd.underlying61⟩, by kernel_rfl, rfl⟩
theorem Tryd.app66_66 : AppT Tryd.prog 66 66 106 34 56 (.agg #[.int .u8 0, .int .u8 0, .int .u8 0, .int .u8 0, .int .u8 0, .int .u8 0, .int .u8 0, .int .u8 0, .int .u8 0, .int .u8 0, .int .u8 0, .int .u8 0, .int .u8 0, .int .u8 0, .int .u8 0, .int .u8 0, .int .u8 0, .int .u8 0, .int .u8 0, .int .u8 0, .int .u8 0, .int .u8 0, .int .u8 0, .int .u8 0, .int .u8 0, .int .u8 0, .int .u8 0, .int .u8 0, .int .u8 0, .int .u8 0, .int .u8 0, .int .u8 0, .string ⟨#[]⟩, .bool false]) := ⟨Tryd.underlying66, .inl ⟨_, Tryd.underlying66⟩, by kernel_rfl, rfl⟩
theorem Tryd.app69_69 : AppT Tryd.prog 69 69 9 1 16 (.string ⟨#[]⟩) := ⟨Tryd.underlying69, .inl ⟨_, Tryd.underlying69⟩, by kernel_rfl, rfl⟩
theorem Tryd.app117_9 : AppT Tryd.prog 117 9 5 1 1 (.int .u8 0) := ⟨Tryd.underlying117, .inr Tryd.underlying9, by kernel_rfl, rfl⟩
theorem Tryd.app117_117 : AppT Tryd.prog 117 117 5 1 1 (.int .u8 0) := ⟨Tryd.underlying117, .inl ⟨_, Tryd.underlying117⟩, by kernel_rfl, rfl⟩
theorem Tryd.app131_131 : AppT Tryd.prog 131 131 135 1 4 (.int .u32 0) := ⟨Tryd.underlying131, .inl ⟨_, Tryd.underlying131⟩, by kernel_rfl, rfl⟩
theorem Tryd.en10 : Enters Tryd.prog 10 := enters_of Tryd.func10 (by kernel_rfl) rfl
theorem Tryd.en11 : Enters Tryd.prog 11 := enters_of Tryd.func11 (by kernel_rfl) rfl
theorem Tryd.en12 : Enters Tryd.prog 12 := enters_of Tryd.func12 (by kernel_rfl) rfl
theorem Tryd.en13 : Enters Tryd.prog 13 := enters_of Tryd.func13 (by kernel_rfl) rfl
theorem Tryd.en14 : Enters Tryd.prog 14 := enters_of Tryd.func14 (by kernel_rfl) rfl
theorem Tryd.en15 : Enters Tryd.prog 15 := enters_of Tryd.func15 (by kernel_rfl) rfl
theorem Tryd.en16 : Enters Tryd.prog 16 := enters_of Tryd.func16 (by kernel_rfl) rfl
theorem Tryd.en17 : Enters Tryd.prog 17 := enters_of Tryd.func17 (by kernel_rfl) rfl
theorem Tryd.en18 : Enters Tryd.prog 18 := enters_of Tryd.func18 (by kernel_rfl) rfl
theorem Tryd.en19 : Enters Tryd.prog 19 := enters_of Tryd.func19 (by kernel_rfl) rfl
theorem Tryd.en20 : Enters Tryd.prog 20 := enters_of Tryd.func20 (by kernel_rfl) rfl
theorem Tryd.en21 : Enters Tryd.prog 21 := enters_of Tryd.func21 (by kernel_rfl) rfl
theorem Tryd.en22 : Enters Tryd.prog 22 := enters_of Tryd.func22 (by kernel_rfl) rfl
theorem Tryd.en23 : Enters Tryd.prog 23 := enters_of Tryd.func23 (by kernel_rfl) rfl
theorem Tryd.en24 : Enters Tryd.prog 24 := enters_of Tryd.func24 (by kernel_rfl) rfl
theorem Tryd.en25 : Enters Tryd.prog 25 := enters_of Tryd.func25 (by kernel_rfl) rfl
theorem Tryd.en26 : Enters Tryd.prog 26 := enters_of Tryd.func26 (by kernel_rfl) rfl
theorem Tryd.en27 : Enters Tryd.prog 27 := enters_of Tryd.func27 (by kernel_rfl) rfl
theorem Tryd.en28 : Enters Tryd.prog 28 := enters_of Tryd.func28 (by kernel_rfl) rfl
theorem Tryd.en29 : Enters Tryd.prog 29 := enters_of Tryd.func29 (by kernel_rfl) rfl
theorem Tryd.en30 : Enters Tryd.prog 30 := enters_of Tryd.func30 (by kernel_rfl) rfl
theorem Tryd.en31 : Enters Tryd.prog 31 := enters_of Tryd.func31 (by kernel_rfl) rfl
theorem Tryd.en32 : Enters Tryd.prog 32 := enters_of Tryd.func32 (by kernel_rfl) rfl
theorem Tryd.en33 : Enters Tryd.prog 33 := enters_of Tryd.func33 (by kernel_rfl) rfl
theorem Tryd.en34 : Enters Tryd.prog 34 := enters_of Tryd.func34 (by kernel_rfl) rfl
theorem Tryd.en35 : Enters Tryd.prog 35 := enters_of Tryd.func35 (by kernel_rfl) rfl
theorem Tryd.en36 : Enters Tryd.prog 36 := enters_of Tryd.func36 (by kernel_rfl) rfl
theorem Tryd.en37 : Enters Tryd.prog 37 := enters_of Tryd.func37 (by kernel_rfl) rfl
theorem Tryd.en38 : Enters Tryd.prog 38 := enters_of Tryd.func38 (by kernel_rfl) rfl
theorem Tryd.en39 : Enters Tryd.prog 39 := enters_of Tryd.func39 (by kernel_rfl) rfl
theorem Tryd.en40 : Enters Tryd.prog 40 := enters_of Tryd.func40 (by kernel_rfl) rfl
theorem Tryd.en41 : Enters Tryd.prog 41 := enters_of Tryd.func41 (by kernel_rfl) rfl
theorem Tryd.en42 : Enters Tryd.prog 42 := enters_of Tryd.func42 (by kernel_rfl) rfl
theorem Tryd.en43 : Enters Tryd.prog 43 := enters_of Tryd.func43 (by kernel_rfl) rfl
theorem Tryd.en44 : Enters Tryd.prog 44 := enters_of Tryd.func44 (by kernel_rfl) rfl
theorem Tryd.en45 : Enters Tryd.prog 45 := enters_of Tryd.func45 (by kernel_rfl) rfl
theorem Tryd.en46 : Enters Tryd.prog 46 := enters_of Tryd.func46 (by kernel_rfl) rfl
theorem Tryd.en47 : Enters Tryd.prog 47 := enters_of Tryd.func47 (by kernel_rfl) rfl
theorem Tryd.en48 : Enters Tryd.prog 48 := enters_of Tryd.func48 (by kernel_rfl) rfl
theorem Tryd.en49 : Enters Tryd.prog 49 := enters_of Tryd.func49 (by kernel_rfl) rfl
theorem Tryd.en50 : Enters Tryd.prog 50 := enters_of Tryd.func50 (by kernel_rfl) rfl
theorem Tryd.en51 : Enters Tryd.prog 51 := enters_of Tryd.func51 (by kernel_rfl) rfl
theorem Tryd.en52 : Enters Tryd.prog 52 := enters_of Tryd.func52 (by kernel_rfl) rfl
theorem Tryd.en53 : Enters Tryd.prog 53 := enters_of Tryd.func53 (by kernel_rfl) rfl
theorem Tryd.en54 : Enters Tryd.prog 54 := enters_of Tryd.func54 (by kernel_rfl) rfl
theorem Tryd.en55 : Enters Tryd.prog 55 := enters_of Tryd.func55 (by kernel_rfl) rfl
theorem Tryd.en56 : Enters Tryd.prog 56 := enters_of Tryd.func56 (by kernel_rfl) rfl
theorem Tryd.en57 : Enters Tryd.prog 57 := enters_of Tryd.func57 (by kernel_rfl) rfl
theorem Tryd.en58 : Enters Tryd.prog 58 := enters_of Tryd.func58 (by kernel_rfl) rfl
theorem Tryd.en59 : Enters Tryd.prog 59 := enters_of Tryd.func59 (by kernel_rfl) rfl
theorem Tryd.en60 : Enters Tryd.prog 60 := enters_of Tryd.func60 (by kernel_rfl) rfl
theorem Tryd.en61 : Enters Tryd.prog 61 := enters_of Tryd.func61 (by kernel_rfl) rfl
theorem Tryd.en62 : Enters Tryd.prog 62 := enters_of Tryd.func62 (by kernel_rfl) rfl
theorem Tryd.en63 : Enters Tryd.prog 63 := enters_of Tryd.func63 (by kernel_rfl) rfl
theorem Tryd.en64 : Enters Tryd.prog 64 := enters_of Tryd.func64 (by kernel_rfl) rfl
theorem Tryd.en65 : Enters Tryd.prog 65 := enters_of Tryd.func65 (by kernel_rfl) rfl
theorem Tryd.en66 : Enters Tryd.prog 66 := enters_of Tryd.func66 (by kernel_rfl) rfl
theorem Tryd.en67 : Enters Tryd.prog 67 := enters_of Tryd.func67 (by kernel_rfl) rfl
theorem Tryd.en68 : Enters Tryd.prog 68 := enters_of Tryd.func68 (by kernel_rfl) rfl
theorem Tryd.en69 : Enters Tryd.prog 69 := enters_of Tryd.func69 (by kernel_rfl) rfl
theorem Tryd.en70 : Enters Tryd.prog 70 := enters_of Tryd.func70 (by kernel_rfl) rfl
theorem Tryd.en71 : Enters Tryd.prog 71 := enters_of Tryd.func71 (by kernel_rfl) rfl
theorem Tryd.en72 : Enters Tryd.prog 72 := enters_of Tryd.func72 (by kernel_rfl) rfl
theorem Tryd.en73 : Enters Tryd.prog 73 := enters_of Tryd.func73 (by kernel_rfl) rfl
theorem Tryd.en74 : Enters Tryd.prog 74 := enters_of Tryd.func74 (by kernel_rfl) rfl
theorem Tryd.en75 : Enters Tryd.prog 75 := enters_of Tryd.func75 (by kernel_rfl) rfl
theorem Tryd.en76 : Enters Tryd.prog 76 := enters_of Tryd.func76 (by kernel_rfl) rfl
theorem Tryd.en77 : Enters Tryd.prog 77 := enters_of Tryd.func77 (by kernel_rfl) rfl
theorem Tryd.en78 : Enters Tryd.prog 78 := enters_of Tryd.func78 (by kernel_rfl) rfl
theorem Tryd.en79 : Enters Tryd.prog 79 := enters_of Tryd.func79 (by kernel_rfl) rfl
theorem Tryd.en80 : Enters Tryd.prog 80 := enters_of Tryd.func80 (by kernel_rfl) rfl
theorem Tryd.en81 : Enters Tryd.prog 81 := enters_of Tryd.func81 (by kernel_rfl) rfl
theorem Tryd.en82 : Enters Tryd.prog 82 := enters_of Tryd.func82 (by kernel_rfl) rfl
theorem Tryd.en83 : Enters Tryd.prog 83 := enters_of Tryd.func83 (by kernel_rfl) rfl
theorem Tryd.en84 : Enters Tryd.prog 84 := enters_of Tryd.func84 (by kernel_rfl) rfl
theorem Tryd.en85 : Enters Tryd.prog 85 := enters_of Tryd.func85 (by kernel_rfl) rfl
theorem Tryd.en86 : Enters Tryd.prog 86 := enters_of Tryd.func86 (by kernel_rfl) rfl
theorem Tryd.en87 : Enters Tryd.prog 87 := enters_of Tryd.func87 (by kernel_rfl) rfl
theorem Tryd.en88 : Enters Tryd.prog 88 := enters_of Tryd.func88 (by kernel_rfl) rfl
theorem Tryd.en89 : Enters Tryd.prog 89 := enters_of Tryd.func89 (by kernel_rfl) rfl
theorem Tryd.en90 : Enters Tryd.prog 90 := enters_of Tryd.func90 (by kernel_rfl) rfl
theorem Tryd.en91 : Enters Tryd.prog 91 := enters_of Tryd.func91 (by kernel_rfl) rfl
theorem Tryd.en92 : Enters Tryd.prog 92 := enters_of Tryd.func92 (by kernel_rfl) rfl
theorem Tryd.en93 : Enters Tryd.prog 93 := enters_of Tryd.func93 (by kernel_rfl) rfl
theorem Tryd.en94 : Enters Tryd.prog 94 := enters_of Tryd.func94 (by kernel_rfl) rfl
theorem Tryd.en95 : Enters Tryd.prog 95 := enters_of Tryd.func95 (by kernel_rfl) rfl
theorem Tryd.en97 : Enters Tryd.prog 97 := enters_of Tryd.func97 (by kernel_rfl) rfl
theorem Tryd.en98 : Enters Tryd.prog 98 := enters_of Tryd.func98 (by kernel_rfl) rfl
theorem Tryd.en99 : Enters Tryd.prog 99 := enters_of Tryd.func99 (by kernel_rfl) rfl
theorem Tryd.en100 : Enters Tryd.prog 100 := enters_of Tryd.func100 (by kernel_rfl) rfl
theorem Tryd.en101 : Enters Tryd.prog 101 := enters_of Tryd.func101 (by kernel_rfl) rfl
theorem Tryd.en102 : Enters Tryd.prog 102 := enters_of Tryd.func102 (by kernel_rfl) rfl
theorem Tryd.en103 : Enters Tryd.prog 103 := enters_of Tryd.func103 (by kernel_rfl) rfl
theorem Tryd.en104 : Enters Tryd.prog 104 := enters_of Tryd.func104 (by kernel_rfl) rfl
theorem Tryd.en105 : Enters Tryd.prog 105 := enters_of Tryd.func105 (by kernel_rfl) rfl
theorem Tryd.en106 : Enters Tryd.prog 106 := enters_of Tryd.func106 (by kernel_rfl) rfl
theorem Tryd.en107 : Enters Tryd.prog 107 := enters_of Tryd.func107 (by kernel_rfl) rfl
theorem Tryd.en108 : Enters Tryd.prog 108 := enters_of Tryd.func108 (by kernel_rfl) rfl
theorem Tryd.en109 : Enters Tryd.prog 109 := enters_of Tryd.func109 (by kernel_rfl) rfl
theorem Tryd.en110 : Enters Tryd.prog 110 := enters_of Tryd.func110 (by kernel_rfl) rfl
theorem Tryd.en111 : Enters Tryd.prog 111 := enters_of Tryd.func111 (by kernel_rfl) rfl
theorem Tryd.en112 : Enters Tryd.prog 112 := enters_of Tryd.func112 (by kernel_rfl) rfl
theorem Tryd.en113 : Enters Tryd.prog 113 := enters_of Tryd.func113 (by kernel_rfl) rfl
theorem Tryd.en114 : Enters Tryd.prog 114 := enters_of Tryd.func114 (by kernel_rfl) rfl
theorem Tryd.en115 : Enters Tryd.prog 115 := enters_of Tryd.func115 (by kernel_rfl) rfl
theorem Tryd.en116 : Enters Tryd.prog 116 := enters_of Tryd.func116 (by kernel_rfl) rfl
theorem Tryd.en117 : Enters Tryd.prog 117 := enters_of Tryd.func117 (by kernel_rfl) rfl
theorem Tryd.en118 : Enters Tryd.prog 118 := enters_of Tryd.func118 (by kernel_rfl) rfl
theorem Tryd.en119 : Enters Tryd.prog 119 := enters_of Tryd.func119 (by kernel_rfl) rfl
theorem Tryd.en120 : Enters Tryd.prog 120 := enters_of Tryd.func120 (by kernel_rfl) rfl
theorem Tryd.en121 : Enters Tryd.prog 121 := enters_of Tryd.func121 (by kernel_rfl) rfl
theorem Tryd.en122 : Enters Tryd.prog 122 := enters_of Tryd.func122 (by kernel_rfl) rfl
theorem Tryd.en123 : Enters Tryd.prog 123 := enters_of Tryd.func123 (by kernel_rfl) rfl
theorem Tryd.en124 : Enters Tryd.prog 124 := enters_of Tryd.func124 (by kernel_rfl) rfl
theorem Tryd.en125 : Enters Tryd.prog 125 := enters_of Tryd.func125 (by kernel_rfl) rfl
theorem Tryd.en126 : Enters Tryd.prog 126 := enters_of Tryd.func126 (by kernel_rfl) rfl
theorem Tryd.en127 : Enters Tryd.prog 127 := enters_of Tryd.func127 (by kernel_rfl) rfl
theorem Tryd.en128 : Enters Tryd.prog 128 := enters_of Tryd.func128 (by kernel_rfl) rfl
theorem Tryd.en129 : Enters Tryd.prog 129 := enters_of Tryd.func129 (by kernel_rfl) rfl
theorem Tryd.en130 : Enters Tryd.prog 130 := enters_of Tryd.func130 (by kernel_rfl) rfl
theorem Tryd.en131 : Enters Tryd.prog 131 := enters_of Tryd.func131 (by kernel_rfl) rfl
theorem Tryd.en132 : Enters Tryd.prog 132 := enters_of Tryd.func132 (by kernel_rfl) rfl
theorem Tryd.en133 : Enters Tryd.prog 133 := enters_of Tryd.func133 (by kernel_rfl) rfl
theorem Tryd.en134 : Enters Tryd.prog 134 := enters_of Tryd.func134 (by kernel_rfl) rfl
theorem Tryd.en135 : Enters Tryd.prog 135 := enters_of Tryd.func135 (by kernel_rfl) rfl
end Go.Proofs.YtfhldfjknagidaaDoor
