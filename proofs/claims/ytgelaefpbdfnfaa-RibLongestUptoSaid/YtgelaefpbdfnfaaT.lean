/- The types of the program, as the plain-data machine wants them. Printed by mkT.py. -/
import Derived.Test.YtgelaefpbdfnfaaVx10
import Derived.Test.YtgelaefpbdfnfaaProg
import Derived.KernelRfl
namespace Go.Proofs.Ytgelaefpbdfnfaa
open Go Go.Vx
def T : Tab := fun t => match t with
  | 3 => some ⟨1, 8, .int .i64, [.i .i64 0]⟩
  | 4 => some ⟨1, 1, .bool, [.ff]⟩
  | 22 => some ⟨1, 24, .slice 34, [.nilS]⟩
  | 23 => some ⟨1, 24, .slice 3, [.nilS]⟩
  | 25 => some ⟨1, 8, .int .i64, [.i .i64 0]⟩
  | 34 => some ⟨4, 32, .struct [(0, 3), (1, 3), (2, 3), (3, 3)], [.i .i64 0, .i .i64 0, .i .i64 0, .i .i64 0]⟩
  | 36 => some ⟨1, 24, .slice 68, [.nilS]⟩
  | 57 => some ⟨1, 24, .slice 3, [.nilS]⟩
  | 58 => some ⟨1, 8, .other, [.u]⟩
  | 59 => some ⟨1, 24, .slice 64, [.nilS]⟩
  | 61 => some ⟨2, 32, .struct [(0, 59), (1, 58)], [.nilS, .u]⟩
  | 64 => some ⟨2, 16, .struct [(0, 3), (1, 3)], [.i .i64 0, .i .i64 0]⟩
  | 68 => some ⟨4, 32, .struct [(0, 3), (1, 3), (2, 3), (3, 3)], [.i .i64 0, .i .i64 0, .i .i64 0, .i .i64 0]⟩
  | 70 => some ⟨1, 24, .slice 73, [.nilS]⟩
  | 73 => some ⟨5, 40, .struct [(0, 68), (4, 3)], [.i .i64 0, .i .i64 0, .i .i64 0, .i .i64 0, .i .i64 0]⟩
  | 79 => some ⟨1, 8, .ptr 61, [.nilP]⟩
  | 80 => some ⟨1, 8, .other, [.u]⟩
  | 82 => some ⟨0, 0, .struct [], []⟩
  | 84 => some ⟨2, 32, .struct [(0, 70), (1, 80)], [.nilS, .u]⟩
  | 89 => some ⟨1, 8, .ptr 84, [.nilP]⟩
  | _ => none
theorem good3 : Vx.Good Try.prog 3 ⟨1, 8, .int .i64, [.i .i64 0]⟩ :=
  ⟨⟨Try.t3, .int .i64 0, by kernel_rfl, rfl, rfl, rfl, rfl, rfl, by simp [Value.cells, Value.oneCell']⟩, Try.underlying3, fun w => Try.isAgg3 w⟩
theorem good4 : Vx.Good Try.prog 4 ⟨1, 1, .bool, [.ff]⟩ :=
  ⟨⟨Try.t4, .bool false, by kernel_rfl, rfl, rfl, rfl, rfl, rfl, by simp [Value.cells, Value.oneCell']⟩, Try.underlying4, fun w => Try.isAgg4 w⟩
theorem good22 : Vx.Good Try.prog 22 ⟨1, 24, .slice 34, [.nilS]⟩ :=
  ⟨⟨Try.t22, .slice none 0 0, by kernel_rfl, rfl, rfl, rfl, rfl, rfl, by simp [Value.cells, Value.oneCell']⟩, Try.underlying22, fun w => Try.isAgg22 w⟩
theorem good23 : Vx.Good Try.prog 23 ⟨1, 24, .slice 3, [.nilS]⟩ :=
  ⟨⟨Try.t23, .slice none 0 0, by kernel_rfl, rfl, rfl, rfl, rfl, rfl, by simp [Value.cells, Value.oneCell']⟩, Try.underlying23, fun w => Try.isAgg23 w⟩
theorem good25 : Vx.Good Try.prog 25 ⟨1, 8, .int .i64, [.i .i64 0]⟩ :=
  ⟨⟨Try.t25, .int .i64 0, by kernel_rfl, rfl, rfl, rfl, rfl, rfl, by simp [Value.cells, Value.oneCell']⟩, Try.underlying25, fun w => Try.isAgg25 w⟩
theorem good34 : Vx.Good Try.prog 34 ⟨4, 32, .struct [(0, 3), (1, 3), (2, 3), (3, 3)], [.i .i64 0, .i .i64 0, .i .i64 0, .i .i64 0]⟩ :=
  ⟨⟨Try.t34, .agg #[.int .i64 0, .int .i64 0, .int .i64 0, .int .i64 0], by kernel_rfl, rfl, rfl, rfl, rfl, rfl, by simp [Value.cells, Value.oneCell']⟩, ⟨_, Try.underlying34, rfl⟩, fun w => Try.isAgg34 w⟩
theorem good36 : Vx.Good Try.prog 36 ⟨1, 24, .slice 68, [.nilS]⟩ :=
  ⟨⟨Try.t36, .slice none 0 0, by kernel_rfl, rfl, rfl, rfl, rfl, rfl, by simp [Value.cells, Value.oneCell']⟩, Try.underlying36, fun w => Try.isAgg36 w⟩
theorem good57 : Vx.Good Try.prog 57 ⟨1, 24, .slice 3, [.nilS]⟩ :=
  ⟨⟨Try.t57, .slice none 0 0, by kernel_rfl, rfl, rfl, rfl, rfl, rfl, by simp [Value.cells, Value.oneCell']⟩, Try.underlying57, fun w => Try.isAgg57 w⟩
theorem good58 : Vx.Good Try.prog 58 ⟨1, 8, .other, [.u]⟩ :=
  ⟨⟨Try.t58, .nilFunc, by kernel_rfl, rfl, rfl, rfl, rfl, rfl, by simp [Value.cells, Value.oneCell']⟩, trivial, fun w => Try.isAgg58 w⟩
theorem good59 : Vx.Good Try.prog 59 ⟨1, 24, .slice 64, [.nilS]⟩ :=
  ⟨⟨Try.t59, .slice none 0 0, by kernel_rfl, rfl, rfl, rfl, rfl, rfl, by simp [Value.cells, Value.oneCell']⟩, Try.underlying59, fun w => Try.isAgg59 w⟩
theorem good61 : Vx.Good Try.prog 61 ⟨2, 32, .struct [(0, 59), (1, 58)], [.nilS, .u]⟩ :=
  ⟨⟨Try.t61, .agg #[.slice none 0 0, .nilFunc], by kernel_rfl, rfl, rfl, rfl, rfl, rfl, by simp [Value.cells, Value.oneCell']⟩, ⟨_, Try.underlying61, rfl⟩, fun w => Try.isAgg61 w⟩
theorem good64 : Vx.Good Try.prog 64 ⟨2, 16, .struct [(0, 3), (1, 3)], [.i .i64 0, .i .i64 0]⟩ :=
  ⟨⟨Try.t64, .agg #[.int .i64 0, .int .i64 0], by kernel_rfl, rfl, rfl, rfl, rfl, rfl, by simp [Value.cells, Value.oneCell']⟩, ⟨_, Try.underlying64, rfl⟩, fun w => Try.isAgg64 w⟩
theorem good68 : Vx.Good Try.prog 68 ⟨4, 32, .struct [(0, 3), (1, 3), (2, 3), (3, 3)], [.i .i64 0, .i .i64 0, .i .i64 0, .i .i64 0]⟩ :=
  ⟨⟨Try.t68, .agg #[.int .i64 0, .int .i64 0, .int .i64 0, .int .i64 0], by kernel_rfl, rfl, rfl, rfl, rfl, rfl, by simp [Value.cells, Value.oneCell']⟩, ⟨_, Try.underlying68, rfl⟩, fun w => Try.isAgg68 w⟩
theorem good70 : Vx.Good Try.prog 70 ⟨1, 24, .slice 73, [.nilS]⟩ :=
  ⟨⟨Try.t70, .slice none 0 0, by kernel_rfl, rfl, rfl, rfl, rfl, rfl, by simp [Value.cells, Value.oneCell']⟩, Try.underlying70, fun w => Try.isAgg70 w⟩
theorem good73 : Vx.Good Try.prog 73 ⟨5, 40, .struct [(0, 68), (4, 3)], [.i .i64 0, .i .i64 0, .i .i64 0, .i .i64 0, .i .i64 0]⟩ :=
  ⟨⟨Try.t73, .agg #[.int .i64 0, .int .i64 0, .int .i64 0, .int .i64 0, .int .i64 0], by kernel_rfl, rfl, rfl, rfl, rfl, rfl, by simp [Value.cells, Value.oneCell']⟩, ⟨_, Try.underlying73, rfl⟩, fun w => Try.isAgg73 w⟩
theorem good79 : Vx.Good Try.prog 79 ⟨1, 8, .ptr 61, [.nilP]⟩ :=
  ⟨⟨Try.t79, .pointer none, by kernel_rfl, rfl, rfl, rfl, rfl, rfl, by simp [Value.cells, Value.oneCell']⟩, Try.underlying79, fun w => Try.isAgg79 w⟩
theorem good80 : Vx.Good Try.prog 80 ⟨1, 8, .other, [.u]⟩ :=
  ⟨⟨Try.t80, .nilFunc, by kernel_rfl, rfl, rfl, rfl, rfl, rfl, by simp [Value.cells, Value.oneCell']⟩, trivial, fun w => Try.isAgg80 w⟩
theorem good82 : Vx.Good Try.prog 82 ⟨0, 0, .struct [], []⟩ :=
  ⟨⟨Try.t82, .agg #[], by kernel_rfl, rfl, rfl, rfl, rfl, rfl, by simp [Value.cells, Value.oneCell']⟩, ⟨_, Try.underlying82, rfl⟩, fun w => Try.isAgg82 w⟩
theorem good84 : Vx.Good Try.prog 84 ⟨2, 32, .struct [(0, 70), (1, 80)], [.nilS, .u]⟩ :=
  ⟨⟨Try.t84, .agg #[.slice none 0 0, .nilFunc], by kernel_rfl, rfl, rfl, rfl, rfl, rfl, by simp [Value.cells, Value.oneCell']⟩, ⟨_, Try.underlying84, rfl⟩, fun w => Try.isAgg84 w⟩
theorem good89 : Vx.Good Try.prog 89 ⟨1, 8, .ptr 84, [.nilP]⟩ :=
  ⟨⟨Try.t89, .pointer none, by kernel_rfl, rfl, rfl, rfl, rfl, rfl, by simp [Value.cells, Value.oneCell']⟩, Try.underlying89, fun w => Try.isAgg89 w⟩
set_option maxRecDepth 10000 in
theorem tok : TOk Try.prog T := by
  intro t ti h
  unfold T at h
  split at h
  · cases h; exact good3
  · cases h; exact good4
  · cases h; exact good22
  · cases h; exact good23
  · cases h; exact good25
  · cases h; exact good34
  · cases h; exact good36
  · cases h; exact good57
  · cases h; exact good58
  · cases h; exact good59
  · cases h; exact good61
  · cases h; exact good64
  · cases h; exact good68
  · cases h; exact good70
  · cases h; exact good73
  · cases h; exact good79
  · cases h; exact good80
  · cases h; exact good82
  · cases h; exact good84
  · cases h; exact good89
  · cases h
theorem follows : Try.prog.follows .mixedOrders = true := by kernel_rfl
end Go.Proofs.Ytgelaefpbdfnfaa
