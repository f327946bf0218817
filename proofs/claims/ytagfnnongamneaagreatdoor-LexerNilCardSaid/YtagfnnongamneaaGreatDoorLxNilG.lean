/- LexerNil: the walk. -/
import Derived.Test.YtagfnnongamneaaGreatDoorGN
import Derived.Test.YtagfnnongamneaaGreatDoorGO
namespace Go.Proofs.YtagfnnongamneaaGreatDoor
open Go.RowKit Go.Lib

set_option maxRecDepth 100000 in
set_option maxHeartbeats 2000000 in
theorem lxNil_walk (s0 : List UInt8) (k1 : Int) (w : World) (hS : Std w) (hL : ∃ m, w.cell? ⟨0, 0, Option.none⟩ = some (.int .i64 m)) (_h0 : s0.length ≤ maxLen) (_h1 : -9223372036854775808 ≤ k1) (_h2 : k1 ≤ 9223372036854775807) :
    Calls Tryz.prog 8 #[.string ⟨s0.toArray⟩, .int .i64 k1] w fun e w' => e = .returned (.bool true) ∧ Below w.heap.size w w' := by
  have HK := Lib.hid (known47 w hS hL)
  have H1 := Lib.hid (fun W => next_nil W)
  have H2 := Lib.hid (fun W => peek_nil W)
  have H3 := Lib.hid (fun W => take_nil k1 W)
  have H4 := Lib.hid (fun W => empty_zero W)
  unfold tokZA at H1 H2 H3 H4
  clear _h1 _h2 hS hL _h0
  go_enter Tryz.func8, Tryz.ntmps8
  go_wp2_with fail
  refine HK.out.mono ?_
  rintro e w1 ⟨rfl, hbw⟩
  go_wp2_with fail
  refine (H1.out _).mono ?_
  rintro e w2 ⟨rfl, hb⟩
  have c1 : Hid (Cells (w2.alloc (.cells #[.int .i64 0, .string ⟨#[]⟩, .string ⟨#[]⟩, .string ⟨#[]⟩, .slice Option.none 0 0, .int .i64 0, .int .i64 0] 43)) w2.heap.size 43 _) := Lib.hid (Cells.new w2 43 #[.int .i64 0, .string ⟨#[]⟩, .string ⟨#[]⟩, .string ⟨#[]⟩, .slice Option.none 0 0, .int .i64 0, .int .i64 0])
  replace hbw := hbw.trans (hb.mono hbw.size)
  replace hbw := hbw.alloc hbw.size (.cells #[.int .i64 0, .string ⟨#[]⟩, .string ⟨#[]⟩, .string ⟨#[]⟩, .slice Option.none 0 0, .int .i64 0, .int .i64 0] 43)
  clear hb
  go_wp2_with fail
  refine (H2.out _).mono ?_
  rintro e w3 ⟨rfl, hb⟩
  replace c1 := Lib.hid (c1.out.below hb c1.out.lt)
  replace hbw := hbw.trans (hb.mono hbw.size)
  have c2 : Hid (Cells (w3.alloc (.cells #[.int .i64 0, .string ⟨#[]⟩, .string ⟨#[]⟩, .string ⟨#[]⟩, .slice Option.none 0 0, .int .i64 0, .int .i64 0] 43)) w3.heap.size 43 _) := Lib.hid (Cells.new w3 43 #[.int .i64 0, .string ⟨#[]⟩, .string ⟨#[]⟩, .string ⟨#[]⟩, .slice Option.none 0 0, .int .i64 0, .int .i64 0])
  replace c1 := Lib.hid (c1.out.alloc (.cells #[.int .i64 0, .string ⟨#[]⟩, .string ⟨#[]⟩, .string ⟨#[]⟩, .slice Option.none 0 0, .int .i64 0, .int .i64 0] 43))
  replace hbw := hbw.alloc hbw.size (.cells #[.int .i64 0, .string ⟨#[]⟩, .string ⟨#[]⟩, .string ⟨#[]⟩, .slice Option.none 0 0, .int .i64 0, .int .i64 0] 43)
  clear hb
  go_wp2_with fail
  refine (H3.out _).mono ?_
  rintro e w4 ⟨rfl, hb⟩
  replace c1 := Lib.hid (c1.out.below hb c1.out.lt)
  replace c2 := Lib.hid (c2.out.below hb c2.out.lt)
  replace hbw := hbw.trans (hb.mono hbw.size)
  have c3 : Hid (Cells (w4.alloc (.cells #[.int .i64 0, .string ⟨#[]⟩, .string ⟨#[]⟩, .string ⟨#[]⟩, .slice Option.none 0 0, .int .i64 0, .int .i64 0] 43)) w4.heap.size 43 _) := Lib.hid (Cells.new w4 43 #[.int .i64 0, .string ⟨#[]⟩, .string ⟨#[]⟩, .string ⟨#[]⟩, .slice Option.none 0 0, .int .i64 0, .int .i64 0])
  replace c1 := Lib.hid (c1.out.alloc (.cells #[.int .i64 0, .string ⟨#[]⟩, .string ⟨#[]⟩, .string ⟨#[]⟩, .slice Option.none 0 0, .int .i64 0, .int .i64 0] 43))
  replace c2 := Lib.hid (c2.out.alloc (.cells #[.int .i64 0, .string ⟨#[]⟩, .string ⟨#[]⟩, .string ⟨#[]⟩, .slice Option.none 0 0, .int .i64 0, .int .i64 0] 43))
  replace hbw := hbw.alloc hbw.size (.cells #[.int .i64 0, .string ⟨#[]⟩, .string ⟨#[]⟩, .string ⟨#[]⟩, .slice Option.none 0 0, .int .i64 0, .int .i64 0] 43)
  clear hb
  go_upto_region 7 with (fail)
  obtain ⟨W4, hW4⟩ : ∃ W4, W4 = w4.alloc (.cells #[.int .i64 0, .string ⟨#[]⟩, .string ⟨#[]⟩, .string ⟨#[]⟩, .slice Option.none 0 0, .int .i64 0, .int .i64 0] 43) := ⟨_, rfl⟩
  rw [← hW4] at c1 c2 c3 hbw ⊢
  clear hW4
  obtain ⟨⟨p0, p1, p2, p3, p4, p5, p6⟩, _⟩ := cells7 c1.out
  go_wp2_with fail
  refine (H4.out _).mono ?_
  rintro e w5 ⟨rfl, hb⟩
  replace c2 := Lib.hid (c2.out.below hb c2.out.lt)
  replace c3 := Lib.hid (c3.out.below hb c3.out.lt)
  replace hbw := hbw.trans (hb.mono hbw.size)
  clear hb c1 p0 p1 p2 p3 p4 p5 p6
  obtain ⟨⟨p0, p1, p2, p3, p4, p5, p6⟩, _⟩ := cells7 c2.out
  go_wp2_with fail
  refine (H4.out _).mono ?_
  rintro e w6 ⟨rfl, hb⟩
  replace c3 := Lib.hid (c3.out.below hb c3.out.lt)
  replace hbw := hbw.trans (hb.mono hbw.size)
  clear hb c2 p0 p1 p2 p3 p4 p5 p6
  obtain ⟨⟨p0, p1, p2, p3, p4, p5, p6⟩, _⟩ := cells7 c3.out
  go_wp2_with fail
  refine (H4.out _).mono ?_
  rintro e w7 ⟨rfl, hb⟩
  replace hbw := hbw.trans (hb.mono hbw.size)
  clear hb c3 p0 p1 p2 p3 p4 p5 p6
  go_wp2_with fail
  refine (accept_nil s0 _).mono ?_
  rintro e w8 ⟨rfl, hb⟩
  replace hbw := hbw.trans (hb.mono hbw.size)
  clear hb
  go_wp2_with fail
  refine (skip_nil _).mono ?_
  rintro e w9 ⟨rfl, hb⟩
  replace hbw := hbw.trans (hb.mono hbw.size)
  clear hb
  go_wp2_with fail
  refine (at_nil _).mono ?_
  rintro e w10 ⟨rfl, hb⟩
  replace hbw := hbw.trans (hb.mono hbw.size)
  clear hb
  go_wp2_with fail
  refine (mark_nil _).mono ?_
  rintro e w11 ⟨rfl, rfl⟩
  go_wp2_with fail
  refine (back_nil k1 _).mono ?_
  rintro e w12 ⟨rfl, rfl⟩
  go_wp2_with fail
  go_ret
  exact ⟨rfl, hbw⟩

end Go.Proofs.YtagfnnongamneaaGreatDoor
