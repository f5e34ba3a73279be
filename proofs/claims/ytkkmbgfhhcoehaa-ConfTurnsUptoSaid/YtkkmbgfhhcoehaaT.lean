/- The types of the program, as the plain-data machine wants them. Printed by mkT.py. -/
import Derived.Test.YtkkmbgfhhcoehaaVx10
import Derived.Test.YtkkmbgfhhcoehaaProg
import Derived.KernelRfl
namespace Go.Proofs.Ytkkmbgfhhcoehaa
open Go Go.Vx
def T : Tab := fun t => match t with
  | 3 => some ⟨1, 8, .int .i64, [.i .i64 0]⟩
  | 4 => some ⟨1, 1, .bool, [.ff]⟩
  | 9 => some ⟨1, 16, .str, [.s []]⟩
  | 22 => some ⟨1, 24, .slice 43, [.nilS]⟩
  | 23 => some ⟨1, 24, .slice 40, [.nilS]⟩
  | 24 => some ⟨1, 24, .slice 34, [.nilS]⟩
  | 25 => some ⟨1, 24, .slice 47, [.nilS]⟩
  | 27 => some ⟨7, 136, .struct [(0, 9), (1, 22), (2, 9), (3, 4), (4, 23), (5, 24), (6, 25)], [.s [], .nilS, .s [], .ff, .nilS, .nilS, .nilS]⟩
  | 34 => some ⟨3, 40, .struct [(0, 9), (1, 9), (2, 3)], [.s [], .s [], .i .i64 0]⟩
  | 35 => some ⟨1, 24, .slice 9, [.nilS]⟩
  | 36 => some ⟨1, 24, .slice 55, [.nilS]⟩
  | 37 => some ⟨1, 24, .slice 58, [.nilS]⟩
  | 38 => some ⟨1, 24, .slice 83, [.nilS]⟩
  | 40 => some ⟨7, 160, .struct [(0, 9), (1, 35), (2, 35), (3, 36), (4, 37), (5, 38), (6, 38)], [.s [], .nilS, .nilS, .nilS, .nilS, .nilS, .nilS]⟩
  | 43 => some ⟨2, 24, .struct [(0, 9), (1, 3)], [.s [], .i .i64 0]⟩
  | 45 => some ⟨1, 24, .slice 79, [.nilS]⟩
  | 47 => some ⟨3, 64, .struct [(0, 9), (1, 35), (2, 45)], [.s [], .nilS, .nilS]⟩
  | 55 => some ⟨3, 48, .struct [(0, 9), (1, 4), (2, 45)], [.s [], .ff, .nilS]⟩
  | 56 => some ⟨1, 24, .slice 74, [.nilS]⟩
  | 58 => some ⟨5, 104, .struct [(0, 3), (1, 35), (2, 45), (3, 56), (4, 35)], [.i .i64 0, .nilS, .nilS, .nilS, .nilS]⟩
  | 61 => some ⟨1, 8, .other, [.u]⟩
  | 63 => some ⟨1, 8, .other, [.u]⟩
  | 65 => some ⟨1, 8, .other, [.u]⟩
  | 74 => some ⟨2, 24, .struct [(0, 9), (1, 3)], [.s [], .i .i64 0]⟩
  | 77 => some ⟨7, 72, .struct [(0, 9), (1, 3), (2, 3), (3, 3), (4, 3), (5, 3), (6, 9)], [.s [], .i .i64 0, .i .i64 0, .i .i64 0, .i .i64 0, .i .i64 0, .s []]⟩
  | 79 => some ⟨8, 80, .struct [(0, 3), (1, 77)], [.i .i64 0, .s [], .i .i64 0, .i .i64 0, .i .i64 0, .i .i64 0, .i .i64 0, .s []]⟩
  | 83 => some ⟨3, 32, .struct [(0, 3), (1, 3), (2, 9)], [.i .i64 0, .i .i64 0, .s []]⟩
  | 84 => some ⟨1, 8, .other, [.u]⟩
  | 87 => some ⟨1, 8, .other, [.u]⟩
  | 89 => some ⟨1, 8, .other, [.u]⟩
  | 102 => some ⟨1, 8, .other, [.u]⟩
  | _ => none
theorem good3 : Vx.Good Try.prog 3 ⟨1, 8, .int .i64, [.i .i64 0]⟩ :=
  ⟨⟨Try.t3, .int .i64 0, by kernel_rfl, rfl, rfl, rfl, rfl, rfl, by simp [Value.cells, Value.oneCell']⟩, Try.underlying3, fun w => Try.isAgg3 w⟩
theorem good4 : Vx.Good Try.prog 4 ⟨1, 1, .bool, [.ff]⟩ :=
  ⟨⟨Try.t4, .bool false, by kernel_rfl, rfl, rfl, rfl, rfl, rfl, by simp [Value.cells, Value.oneCell']⟩, Try.underlying4, fun w => Try.isAgg4 w⟩
theorem good9 : Vx.Good Try.prog 9 ⟨1, 16, .str, [.s []]⟩ :=
  ⟨⟨Try.t9, .string ⟨#[]⟩, by kernel_rfl, rfl, rfl, rfl, rfl, rfl, by simp [Value.cells, Value.oneCell']⟩, Try.underlying9, fun w => Try.isAgg9 w⟩
theorem good22 : Vx.Good Try.prog 22 ⟨1, 24, .slice 43, [.nilS]⟩ :=
  ⟨⟨Try.t22, .slice none 0 0, by kernel_rfl, rfl, rfl, rfl, rfl, rfl, by simp [Value.cells, Value.oneCell']⟩, Try.underlying22, fun w => Try.isAgg22 w⟩
theorem good23 : Vx.Good Try.prog 23 ⟨1, 24, .slice 40, [.nilS]⟩ :=
  ⟨⟨Try.t23, .slice none 0 0, by kernel_rfl, rfl, rfl, rfl, rfl, rfl, by simp [Value.cells, Value.oneCell']⟩, Try.underlying23, fun w => Try.isAgg23 w⟩
theorem good24 : Vx.Good Try.prog 24 ⟨1, 24, .slice 34, [.nilS]⟩ :=
  ⟨⟨Try.t24, .slice none 0 0, by kernel_rfl, rfl, rfl, rfl, rfl, rfl, by simp [Value.cells, Value.oneCell']⟩, Try.underlying24, fun w => Try.isAgg24 w⟩
theorem good25 : Vx.Good Try.prog 25 ⟨1, 24, .slice 47, [.nilS]⟩ :=
  ⟨⟨Try.t25, .slice none 0 0, by kernel_rfl, rfl, rfl, rfl, rfl, rfl, by simp [Value.cells, Value.oneCell']⟩, Try.underlying25, fun w => Try.isAgg25 w⟩
theorem good27 : Vx.Good Try.prog 27 ⟨7, 136, .struct [(0, 9), (1, 22), (2, 9), (3, 4), (4, 23), (5, 24), (6, 25)], [.s [], .nilS, .s [], .ff, .nilS, .nilS, .nilS]⟩ :=
  ⟨⟨Try.t27, .agg #[.string ⟨#[]⟩, .slice none 0 0, .string ⟨#[]⟩, .bool false, .slice none 0 0, .slice none 0 0, .slice none 0 0], by kernel_rfl, rfl, rfl, rfl, rfl, rfl, by simp [Value.cells, Value.oneCell']⟩, ⟨_, Try.underlying27, rfl⟩, fun w => Try.isAgg27 w⟩
theorem good34 : Vx.Good Try.prog 34 ⟨3, 40, .struct [(0, 9), (1, 9), (2, 3)], [.s [], .s [], .i .i64 0]⟩ :=
  ⟨⟨Try.t34, .agg #[.string ⟨#[]⟩, .string ⟨#[]⟩, .int .i64 0], by kernel_rfl, rfl, rfl, rfl, rfl, rfl, by simp [Value.cells, Value.oneCell']⟩, ⟨_, Try.underlying34, rfl⟩, fun w => Try.isAgg34 w⟩
theorem good35 : Vx.Good Try.prog 35 ⟨1, 24, .slice 9, [.nilS]⟩ :=
  ⟨⟨Try.t35, .slice none 0 0, by kernel_rfl, rfl, rfl, rfl, rfl, rfl, by simp [Value.cells, Value.oneCell']⟩, Try.underlying35, fun w => Try.isAgg35 w⟩
theorem good36 : Vx.Good Try.prog 36 ⟨1, 24, .slice 55, [.nilS]⟩ :=
  ⟨⟨Try.t36, .slice none 0 0, by kernel_rfl, rfl, rfl, rfl, rfl, rfl, by simp [Value.cells, Value.oneCell']⟩, Try.underlying36, fun w => Try.isAgg36 w⟩
theorem good37 : Vx.Good Try.prog 37 ⟨1, 24, .slice 58, [.nilS]⟩ :=
  ⟨⟨Try.t37, .slice none 0 0, by kernel_rfl, rfl, rfl, rfl, rfl, rfl, by simp [Value.cells, Value.oneCell']⟩, Try.underlying37, fun w => Try.isAgg37 w⟩
theorem good38 : Vx.Good Try.prog 38 ⟨1, 24, .slice 83, [.nilS]⟩ :=
  ⟨⟨Try.t38, .slice none 0 0, by kernel_rfl, rfl, rfl, rfl, rfl, rfl, by simp [Value.cells, Value.oneCell']⟩, Try.underlying38, fun w => Try.isAgg38 w⟩
theorem good40 : Vx.Good Try.prog 40 ⟨7, 160, .struct [(0, 9), (1, 35), (2, 35), (3, 36), (4, 37), (5, 38), (6, 38)], [.s [], .nilS, .nilS, .nilS, .nilS, .nilS, .nilS]⟩ :=
  ⟨⟨Try.t40, .agg #[.string ⟨#[]⟩, .slice none 0 0, .slice none 0 0, .slice none 0 0, .slice none 0 0, .slice none 0 0, .slice none 0 0], by kernel_rfl, rfl, rfl, rfl, rfl, rfl, by simp [Value.cells, Value.oneCell']⟩, ⟨_, Try.underlying40, rfl⟩, fun w => Try.isAgg40 w⟩
theorem good43 : Vx.Good Try.prog 43 ⟨2, 24, .struct [(0, 9), (1, 3)], [.s [], .i .i64 0]⟩ :=
  ⟨⟨Try.t43, .agg #[.string ⟨#[]⟩, .int .i64 0], by kernel_rfl, rfl, rfl, rfl, rfl, rfl, by simp [Value.cells, Value.oneCell']⟩, ⟨_, Try.underlying43, rfl⟩, fun w => Try.isAgg43 w⟩
theorem good45 : Vx.Good Try.prog 45 ⟨1, 24, .slice 79, [.nilS]⟩ :=
  ⟨⟨Try.t45, .slice none 0 0, by kernel_rfl, rfl, rfl, rfl, rfl, rfl, by simp [Value.cells, Value.oneCell']⟩, Try.underlying45, fun w => Try.isAgg45 w⟩
theorem good47 : Vx.Good Try.prog 47 ⟨3, 64, .struct [(0, 9), (1, 35), (2, 45)], [.s [], .nilS, .nilS]⟩ :=
  ⟨⟨Try.t47, .agg #[.string ⟨#[]⟩, .slice none 0 0, .slice none 0 0], by kernel_rfl, rfl, rfl, rfl, rfl, rfl, by simp [Value.cells, Value.oneCell']⟩, ⟨_, Try.underlying47, rfl⟩, fun w => Try.isAgg47 w⟩
theorem good55 : Vx.Good Try.prog 55 ⟨3, 48, .struct [(0, 9), (1, 4), (2, 45)], [.s [], .ff, .nilS]⟩ :=
  ⟨⟨Try.t55, .agg #[.string ⟨#[]⟩, .bool false, .slice none 0 0], by kernel_rfl, rfl, rfl, rfl, rfl, rfl, by simp [Value.cells, Value.oneCell']⟩, ⟨_, Try.underlying55, rfl⟩, fun w => Try.isAgg55 w⟩
theorem good56 : Vx.Good Try.prog 56 ⟨1, 24, .slice 74, [.nilS]⟩ :=
  ⟨⟨Try.t56, .slice none 0 0, by kernel_rfl, rfl, rfl, rfl, rfl, rfl, by simp [Value.cells, Value.oneCell']⟩, Try.underlying56, fun w => Try.isAgg56 w⟩
theorem good58 : Vx.Good Try.prog 58 ⟨5, 104, .struct [(0, 3), (1, 35), (2, 45), (3, 56), (4, 35)], [.i .i64 0, .nilS, .nilS, .nilS, .nilS]⟩ :=
  ⟨⟨Try.t58, .agg #[.int .i64 0, .slice none 0 0, .slice none 0 0, .slice none 0 0, .slice none 0 0], by kernel_rfl, rfl, rfl, rfl, rfl, rfl, by simp [Value.cells, Value.oneCell']⟩, ⟨_, Try.underlying58, rfl⟩, fun w => Try.isAgg58 w⟩
theorem good61 : Vx.Good Try.prog 61 ⟨1, 8, .other, [.u]⟩ :=
  ⟨⟨Try.t61, .nilFunc, by kernel_rfl, rfl, rfl, rfl, rfl, rfl, by simp [Value.cells, Value.oneCell']⟩, trivial, fun w => Try.isAgg61 w⟩
theorem good63 : Vx.Good Try.prog 63 ⟨1, 8, .other, [.u]⟩ :=
  ⟨⟨Try.t63, .nilFunc, by kernel_rfl, rfl, rfl, rfl, rfl, rfl, by simp [Value.cells, Value.oneCell']⟩, trivial, fun w => Try.isAgg63 w⟩
theorem good65 : Vx.Good Try.prog 65 ⟨1, 8, .other, [.u]⟩ :=
  ⟨⟨Try.t65, .nilFunc, by kernel_rfl, rfl, rfl, rfl, rfl, rfl, by simp [Value.cells, Value.oneCell']⟩, trivial, fun w => Try.isAgg65 w⟩
theorem good74 : Vx.Good Try.prog 74 ⟨2, 24, .struct [(0, 9), (1, 3)], [.s [], .i .i64 0]⟩ :=
  ⟨⟨Try.t74, .agg #[.string ⟨#[]⟩, .int .i64 0], by kernel_rfl, rfl, rfl, rfl, rfl, rfl, by simp [Value.cells, Value.oneCell']⟩, ⟨_, Try.underlying74, rfl⟩, fun w => Try.isAgg74 w⟩
theorem good77 : Vx.Good Try.prog 77 ⟨7, 72, .struct [(0, 9), (1, 3), (2, 3), (3, 3), (4, 3), (5, 3), (6, 9)], [.s [], .i .i64 0, .i .i64 0, .i .i64 0, .i .i64 0, .i .i64 0, .s []]⟩ :=
  ⟨⟨Try.t77, .agg #[.string ⟨#[]⟩, .int .i64 0, .int .i64 0, .int .i64 0, .int .i64 0, .int .i64 0, .string ⟨#[]⟩], by kernel_rfl, rfl, rfl, rfl, rfl, rfl, by simp [Value.cells, Value.oneCell']⟩, ⟨_, Try.underlying77, rfl⟩, fun w => Try.isAgg77 w⟩
theorem good79 : Vx.Good Try.prog 79 ⟨8, 80, .struct [(0, 3), (1, 77)], [.i .i64 0, .s [], .i .i64 0, .i .i64 0, .i .i64 0, .i .i64 0, .i .i64 0, .s []]⟩ :=
  ⟨⟨Try.t79, .agg #[.int .i64 0, .string ⟨#[]⟩, .int .i64 0, .int .i64 0, .int .i64 0, .int .i64 0, .int .i64 0, .string ⟨#[]⟩], by kernel_rfl, rfl, rfl, rfl, rfl, rfl, by simp [Value.cells, Value.oneCell']⟩, ⟨_, Try.underlying79, rfl⟩, fun w => Try.isAgg79 w⟩
theorem good83 : Vx.Good Try.prog 83 ⟨3, 32, .struct [(0, 3), (1, 3), (2, 9)], [.i .i64 0, .i .i64 0, .s []]⟩ :=
  ⟨⟨Try.t83, .agg #[.int .i64 0, .int .i64 0, .string ⟨#[]⟩], by kernel_rfl, rfl, rfl, rfl, rfl, rfl, by simp [Value.cells, Value.oneCell']⟩, ⟨_, Try.underlying83, rfl⟩, fun w => Try.isAgg83 w⟩
theorem good84 : Vx.Good Try.prog 84 ⟨1, 8, .other, [.u]⟩ :=
  ⟨⟨Try.t84, .nilFunc, by kernel_rfl, rfl, rfl, rfl, rfl, rfl, by simp [Value.cells, Value.oneCell']⟩, trivial, fun w => Try.isAgg84 w⟩
theorem good87 : Vx.Good Try.prog 87 ⟨1, 8, .other, [.u]⟩ :=
  ⟨⟨Try.t87, .nilFunc, by kernel_rfl, rfl, rfl, rfl, rfl, rfl, by simp [Value.cells, Value.oneCell']⟩, trivial, fun w => Try.isAgg87 w⟩
theorem good89 : Vx.Good Try.prog 89 ⟨1, 8, .other, [.u]⟩ :=
  ⟨⟨Try.t89, .nilFunc, by kernel_rfl, rfl, rfl, rfl, rfl, rfl, by simp [Value.cells, Value.oneCell']⟩, trivial, fun w => Try.isAgg89 w⟩
theorem good102 : Vx.Good Try.prog 102 ⟨1, 8, .other, [.u]⟩ :=
  ⟨⟨Try.t102, .nilFunc, by kernel_rfl, rfl, rfl, rfl, rfl, rfl, by simp [Value.cells, Value.oneCell']⟩, trivial, fun w => Try.isAgg102 w⟩
set_option maxRecDepth 10000 in
theorem tok : TOk Try.prog T := by
  intro t ti h
  unfold T at h
  split at h
  · cases h; exact good3
  · cases h; exact good4
  · cases h; exact good9
  · cases h; exact good22
  · cases h; exact good23
  · cases h; exact good24
  · cases h; exact good25
  · cases h; exact good27
  · cases h; exact good34
  · cases h; exact good35
  · cases h; exact good36
  · cases h; exact good37
  · cases h; exact good38
  · cases h; exact good40
  · cases h; exact good43
  · cases h; exact good45
  · cases h; exact good47
  · cases h; exact good55
  · cases h; exact good56
  · cases h; exact good58
  · cases h; exact good61
  · cases h; exact good63
  · cases h; exact good65
  · cases h; exact good74
  · cases h; exact good77
  · cases h; exact good79
  · cases h; exact good83
  · cases h; exact good84
  · cases h; exact good87
  · cases h; exact good89
  · cases h; exact good102
  · cases h
theorem follows : Try.prog.follows .mixedOrders = true := by kernel_rfl
end Go.Proofs.Ytkkmbgfhhcoehaa
