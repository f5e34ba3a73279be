/- The networks that come in, as plain data; the law ConfSames. -/
import Derived.Test.YtkkmbgfhhcoehaaC17
import Derived.Test.YtkkmbgfhhcoehaaVy3
namespace Go.Proofs.Ytkkmbgfhhcoehaa
open Go Go.Vx
theorem ls_of {B : Nat} {α : Type} {f : α → List D} {p : α → Prop} {e : TypeId} {l : List Shp} {x : D} (h : TySs B [.slice e l] [x]) (hf : ∀ {r}, TySs B l r → ∃ a, r = f a ∧ p a) :
    ∃ L : Ls α, x = .lst e (L.l.map f) L.room ∧ L.l.length ≤ B ∧ ∀ a ∈ L.l, p a := by
  obtain ⟨us, room, rfl, hl, h1, _⟩ := lst_of h fun r hr => hf hr
  exact ⟨⟨us, room.map f⟩, rfl, by simp only; omega, h1⟩
theorem str_row_of {r : List D} (h : TySs 1048576 [.str] r) : ∃ a : Str, r = srow a ∧ True := by
  obtain ⟨x0, r, rfl, h0, h⟩ := ss_cons h
  obtain rfl := ss_nil h
  obtain ⟨v0, rfl, _⟩ := str_of h0
  exact ⟨v0, rfl, trivial⟩
theorem si_of {r : List D} (h : TySs 1048576 [.str, .int .i64] r) : ∃ a : SI, r = a.row ∧ True := by
  obtain ⟨x0, r, rfl, h0, h⟩ := ss_cons h
  obtain ⟨x1, r, rfl, h1, h⟩ := ss_cons h
  obtain rfl := ss_nil h
  obtain ⟨v0, rfl, _⟩ := str_of h0
  obtain ⟨v1, rfl, _⟩ := int_of h1
  exact ⟨⟨v0, v1⟩, rfl, trivial⟩
theorem node_of {r : List D} (h : TySs 1048576 [.int .i64, .str, .int .i64, .int .i64, .int .i64, .int .i64, .int .i64, .str] r) : ∃ a : Node, r = a.row ∧ True := by
  obtain ⟨x0, r, rfl, h0, h⟩ := ss_cons h
  obtain ⟨x1, r, rfl, h1, h⟩ := ss_cons h
  obtain ⟨x2, r, rfl, h2, h⟩ := ss_cons h
  obtain ⟨x3, r, rfl, h3, h⟩ := ss_cons h
  obtain ⟨x4, r, rfl, h4, h⟩ := ss_cons h
  obtain ⟨x5, r, rfl, h5, h⟩ := ss_cons h
  obtain ⟨x6, r, rfl, h6, h⟩ := ss_cons h
  obtain ⟨x7, r, rfl, h7, h⟩ := ss_cons h
  obtain rfl := ss_nil h
  obtain ⟨v0, rfl, _⟩ := int_of h0
  obtain ⟨v1, rfl, _⟩ := str_of h1
  obtain ⟨v2, rfl, _⟩ := int_of h2
  obtain ⟨v3, rfl, _⟩ := int_of h3
  obtain ⟨v4, rfl, _⟩ := int_of h4
  obtain ⟨v5, rfl, _⟩ := int_of h5
  obtain ⟨v6, rfl, _⟩ := int_of h6
  obtain ⟨v7, rfl, _⟩ := str_of h7
  exact ⟨⟨v0, v1, v2, v3, v4, v5, v6, v7⟩, rfl, trivial⟩
theorem pfx_of {r : List D} (h : TySs 1048576 [.int .i64, .int .i64, .str] r) : ∃ a : Pfx, r = a.row ∧ True := by
  obtain ⟨x0, r, rfl, h0, h⟩ := ss_cons h
  obtain ⟨x1, r, rfl, h1, h⟩ := ss_cons h
  obtain ⟨x2, r, rfl, h2, h⟩ := ss_cons h
  obtain rfl := ss_nil h
  obtain ⟨v0, rfl, _⟩ := int_of h0
  obtain ⟨v1, rfl, _⟩ := int_of h1
  obtain ⟨v2, rfl, _⟩ := str_of h2
  exact ⟨⟨v0, v1, v2⟩, rfl, trivial⟩
theorem link_of {r : List D} (h : TySs 1048576 [.str, .str, .int .i64] r) : ∃ a : Link, r = a.row ∧ True := by
  obtain ⟨x0, r, rfl, h0, h⟩ := ss_cons h
  obtain ⟨x1, r, rfl, h1, h⟩ := ss_cons h
  obtain ⟨x2, r, rfl, h2, h⟩ := ss_cons h
  obtain rfl := ss_nil h
  obtain ⟨v0, rfl, _⟩ := str_of h0
  obtain ⟨v1, rfl, _⟩ := str_of h1
  obtain ⟨v2, rfl, _⟩ := int_of h2
  exact ⟨⟨v0, v1, v2⟩, rfl, trivial⟩
theorem line_of {r : List D} (h : TySs 1048576 [.str, .bool, .slice 79 [.int .i64, .str, .int .i64, .int .i64, .int .i64, .int .i64, .int .i64, .str]] r) : ∃ a : Line, r = a.row ∧ a.Ok := by
  obtain ⟨x0, r, rfl, h0, h⟩ := ss_cons h
  obtain ⟨x1, r, rfl, h1, h⟩ := ss_cons h
  obtain ⟨x2, r, rfl, h2, h⟩ := ss_cons h
  obtain rfl := ss_nil h
  obtain ⟨v0, rfl, _⟩ := str_of h0
  obtain ⟨v1, rfl⟩ := bool_of h1
  obtain ⟨v2, rfl, hl2, hp2⟩ := ls_of h2 node_of
  exact ⟨⟨v0, v1, v2⟩, rfl, ⟨hl2⟩⟩
theorem rule_of {r : List D} (h : TySs 1048576 [.int .i64, .slice 9 [.str], .slice 79 [.int .i64, .str, .int .i64, .int .i64, .int .i64, .int .i64, .int .i64, .str], .slice 74 [.str, .int .i64], .slice 9 [.str]] r) : ∃ a : Rule, r = a.row ∧ a.Ok := by
  obtain ⟨x0, r, rfl, h0, h⟩ := ss_cons h
  obtain ⟨x1, r, rfl, h1, h⟩ := ss_cons h
  obtain ⟨x2, r, rfl, h2, h⟩ := ss_cons h
  obtain ⟨x3, r, rfl, h3, h⟩ := ss_cons h
  obtain ⟨x4, r, rfl, h4, h⟩ := ss_cons h
  obtain rfl := ss_nil h
  obtain ⟨v0, rfl, _⟩ := int_of h0
  obtain ⟨v1, rfl, hl1, hp1⟩ := ls_of h1 str_row_of
  obtain ⟨v2, rfl, hl2, hp2⟩ := ls_of h2 node_of
  obtain ⟨v3, rfl, hl3, hp3⟩ := ls_of h3 si_of
  obtain ⟨v4, rfl, hl4, hp4⟩ := ls_of h4 str_row_of
  exact ⟨⟨v0, v1, v2, v3, v4⟩, rfl, ⟨hl1, hl2, hl3, hl4⟩⟩
theorem slc_of {r : List D} (h : TySs 1048576 [.str, .slice 9 [.str], .slice 79 [.int .i64, .str, .int .i64, .int .i64, .int .i64, .int .i64, .int .i64, .str]] r) : ∃ a : Slc, r = a.row ∧ a.Ok := by
  obtain ⟨x0, r, rfl, h0, h⟩ := ss_cons h
  obtain ⟨x1, r, rfl, h1, h⟩ := ss_cons h
  obtain ⟨x2, r, rfl, h2, h⟩ := ss_cons h
  obtain rfl := ss_nil h
  obtain ⟨v0, rfl, _⟩ := str_of h0
  obtain ⟨v1, rfl, hl1, hp1⟩ := ls_of h1 str_row_of
  obtain ⟨v2, rfl, hl2, hp2⟩ := ls_of h2 node_of
  exact ⟨⟨v0, v1, v2⟩, rfl, ⟨hl1, hl2⟩⟩
theorem box_of {r : List D} (h : TySs 1048576 [.str, .slice 9 [.str], .slice 9 [.str], .slice 55 [.str, .bool, .slice 79 [.int .i64, .str, .int .i64, .int .i64, .int .i64, .int .i64, .int .i64, .str]], .slice 58 [.int .i64, .slice 9 [.str], .slice 79 [.int .i64, .str, .int .i64, .int .i64, .int .i64, .int .i64, .int .i64, .str], .slice 74 [.str, .int .i64], .slice 9 [.str]], .slice 83 [.int .i64, .int .i64, .str], .slice 83 [.int .i64, .int .i64, .str]] r) : ∃ a : Box, r = a.row ∧ a.Ok := by
  obtain ⟨x0, r, rfl, h0, h⟩ := ss_cons h
  obtain ⟨x1, r, rfl, h1, h⟩ := ss_cons h
  obtain ⟨x2, r, rfl, h2, h⟩ := ss_cons h
  obtain ⟨x3, r, rfl, h3, h⟩ := ss_cons h
  obtain ⟨x4, r, rfl, h4, h⟩ := ss_cons h
  obtain ⟨x5, r, rfl, h5, h⟩ := ss_cons h
  obtain ⟨x6, r, rfl, h6, h⟩ := ss_cons h
  obtain rfl := ss_nil h
  obtain ⟨v0, rfl, _⟩ := str_of h0
  obtain ⟨v1, rfl, hl1, hp1⟩ := ls_of h1 str_row_of
  obtain ⟨v2, rfl, hl2, hp2⟩ := ls_of h2 str_row_of
  obtain ⟨v3, rfl, hl3, hp3⟩ := ls_of h3 line_of
  obtain ⟨v4, rfl, hl4, hp4⟩ := ls_of h4 rule_of
  obtain ⟨v5, rfl, hl5, hp5⟩ := ls_of h5 pfx_of
  obtain ⟨v6, rfl, hl6, hp6⟩ := ls_of h6 pfx_of
  exact ⟨⟨v0, v1, v2, v3, v4, v5, v6⟩, rfl, ⟨hl1, hl2, hl3, hl4, hl5, hl6, hp3, hp4⟩⟩
theorem config_of {r : List D} (h : TySs 1048576 [.str, .slice 43 [.str, .int .i64], .str, .bool, .slice 40 [.str, .slice 9 [.str], .slice 9 [.str], .slice 55 [.str, .bool, .slice 79 [.int .i64, .str, .int .i64, .int .i64, .int .i64, .int .i64, .int .i64, .str]], .slice 58 [.int .i64, .slice 9 [.str], .slice 79 [.int .i64, .str, .int .i64, .int .i64, .int .i64, .int .i64, .int .i64, .str], .slice 74 [.str, .int .i64], .slice 9 [.str]], .slice 83 [.int .i64, .int .i64, .str], .slice 83 [.int .i64, .int .i64, .str]], .slice 34 [.str, .str, .int .i64], .slice 47 [.str, .slice 9 [.str], .slice 79 [.int .i64, .str, .int .i64, .int .i64, .int .i64, .int .i64, .int .i64, .str]]] r) : ∃ a : Config, r = a.row ∧ a.Ok := by
  obtain ⟨x0, r, rfl, h0, h⟩ := ss_cons h
  obtain ⟨x1, r, rfl, h1, h⟩ := ss_cons h
  obtain ⟨x2, r, rfl, h2, h⟩ := ss_cons h
  obtain ⟨x3, r, rfl, h3, h⟩ := ss_cons h
  obtain ⟨x4, r, rfl, h4, h⟩ := ss_cons h
  obtain ⟨x5, r, rfl, h5, h⟩ := ss_cons h
  obtain ⟨x6, r, rfl, h6, h⟩ := ss_cons h
  obtain rfl := ss_nil h
  obtain ⟨v0, rfl, _⟩ := str_of h0
  obtain ⟨v1, rfl, hl1, hp1⟩ := ls_of h1 si_of
  obtain ⟨v2, rfl, _⟩ := str_of h2
  obtain ⟨v3, rfl⟩ := bool_of h3
  obtain ⟨v4, rfl, hl4, hp4⟩ := ls_of h4 box_of
  obtain ⟨v5, rfl, hl5, hp5⟩ := ls_of h5 link_of
  obtain ⟨v6, rfl, hl6, hp6⟩ := ls_of h6 slc_of
  exact ⟨⟨v0, v1, v2, v3, v4, v5, v6⟩, rfl, ⟨hl1, hl4, hl5, hl6, hp4, hp6⟩⟩
theorem sames_row : ∃ ls, shapes T 9 [27, 27] = some ls ∧ ∀ xs, TyAs T 1048576 [27, 27] ls xs → FSpec Try.prog T 3 xs (fun d _ => d = .b True) := by
  refine ⟨_, rfl, fun xs h => ?_⟩
  obtain ⟨_, _, rfl, h0, h⟩ := as_cons h
  obtain ⟨_, _, rfl, h1, h⟩ := as_cons h
  obtain rfl := as_nil h
  obtain ⟨r0, rfl, g0⟩ := agg_of h0 rfl
  obtain ⟨r1, rfl, g1⟩ := agg_of h1 rfl
  obtain ⟨a, rfl, ha⟩ := config_of (r := r0) g0
  obtain ⟨b, rfl, hb⟩ := config_of (r := r1) g1
  exact samesLaw a b ha hb
end Go.Proofs.Ytkkmbgfhhcoehaa
