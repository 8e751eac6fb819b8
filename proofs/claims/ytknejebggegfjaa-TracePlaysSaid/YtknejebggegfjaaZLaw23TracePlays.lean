/- Merged by merge.py: TrT, DenLaw23TraceKnown, DenLaw23TraceWaits, Law23k, DenLaw23TraceStale, DenLaw23TraceStirs, Law23s, DenLaw23TracePlays, Law23p. No condition. -/
import Derived.Test.YtknejebggegfjaaZRow
import Derived.Test.YtknejebggegfjaaZTraceb
import Derived.Test.YtknejebggegfjaaZNum
import Derived.Test.YtknejebggegfjaaZTracec

namespace Go.Proofs.Ytknejebggegfjaa
set_option linter.unusedSimpArgs false
set_option linter.unusedVariables false
set_option maxRecDepth 20000
open Go
section
variable {H0 H : Hp} {L M N : List Prt} {i k tb : Nat} {c : Cf} {t : Tr} {K : Value → Hp → Prop}
theorem toldC {q : Qn} {x : Stp} (hx : x.good H0) (hn : 1 ≤ c.a0 ∧ c.a0 ≤ 12) (h : St H0 L H)
    (hK : ∀ (g : Mg) H', g.ll = g.m.list.length → g.ll ≤ 4 → (∀ v ∈ g.m.list, 0 ≤ v ∧ v < 18446744073709551616) → St H0 (Prt.row 1 g.lp g.ll g.lc (g.m.list.map (Value.int .u64)) :: L) H' → K g.val H') :
    hcall PR f_law23_told ⟨[c.val, q.val, x.val]⟩ H K := by
  apply den_law23_told
  unfold B_law23_told
  intro bc hbc
  have g1 := h.alloc (o := .cells #[.int .i64 c.a0, .int .i64 c.a1, .int .i64 c.a2, .int .i64 c.a3, .int .i64 c.a4, .int .i64 c.a5, .int .i64 c.a6, .int .i64 c.a7, .int .i64 c.a8, .int .i64 c.a9, .int .i64 c.a10, .int .u64 c.a11, .int .u64 c.a12, .int .u64 c.a13, .int .u64 c.a14, .int .u64 c.a15, .int .u64 c.a16, .int .i64 c.a17, .int .i64 c.a18, .int .i64 c.a19, .int .u64 c.a20, .int .u64 c.a21] ty_api_Config) hbc
  intro bq hbq
  have g2 := g1.alloc (o := .cells #[.int .i64 q.kind, .int .i64 q.frm, .int .i64 q.to, .int .u64 q.call, .int .u64 0, .int .i64 q.op, .int .i64 0, .int .i64 q.item, .int .i64 q.tgt.n, .int .u64 q.tgt.s, .slice none 0 0, .int .u64 0, .int .i64 0, .int .u64 0, .int .i64 0, .int .u64 0, .int .i64 0, .int .u64 q.stamp, .slice none 0 0] ty_api_Msg) hbq
  intro bx hbx
  have g3 := g2.alloc (o := .cells #[.int .i64 x.what, .int .i64 x.code, .int .i64 x.off, .int .u64 x.stamp, .int .u64 x.n, .slice x.lp x.ll x.lc, .bool x.near, .int .i64 x.g.m.kind, .int .i64 x.g.m.frm, .int .i64 x.g.m.to, .int .u64 x.g.m.call, .int .u64 x.g.f4, .int .i64 x.g.f5, .int .i64 x.g.f6, .int .i64 x.g.m.item, .int .i64 x.g.f8, .int .u64 x.g.f9, .slice x.g.rp x.g.rl x.g.rc, .int .u64 x.g.f11, .int .i64 x.g.m.code, .int .u64 x.g.f13, .int .i64 x.g.f14, .int .u64 x.g.f15, .int .i64 x.g.f16, .int .u64 x.g.m.stamp, .slice x.g.lp x.g.ll x.g.lc] ty_law23_Step) hbx
  intro bz hbz
  have g4 := g3.alloc (o := .cells #[.int .i64 0, .int .i64 0, .int .i64 0, .int .u64 0, .int .u64 0, .int .i64 0, .int .i64 0, .int .i64 0, .int .i64 0, .int .u64 0, .slice none 0 0, .int .u64 0, .int .i64 0, .int .u64 0, .int .i64 0, .int .u64 0, .int .i64 0, .int .u64 0, .slice none 0 0] ty_api_Msg) hbz
  have g4 : St H0 (Prt.one bz (.cells #[.int .i64 0, .int .i64 0, .int .i64 0, .int .u64 0, .int .u64 0, .int .i64 0, .int .i64 0, .int .i64 0, .int .i64 0, .int .u64 0, .slice none 0 0, .int .u64 0, .int .i64 0, .int .u64 0, .int .i64 0, .int .u64 0, .int .i64 0, .int .u64 0, .slice none 0 0] ty_api_Msg (0, 0)) :: Prt.one bx (.cells #[.int .i64 x.what, .int .i64 x.code, .int .i64 x.off, .int .u64 x.stamp, .int .u64 x.n, .slice x.lp x.ll x.lc, .bool x.near, .int .i64 x.g.m.kind, .int .i64 x.g.m.frm, .int .i64 x.g.m.to, .int .u64 x.g.m.call, .int .u64 x.g.f4, .int .i64 x.g.f5, .int .i64 x.g.f6, .int .i64 x.g.m.item, .int .i64 x.g.f8, .int .u64 x.g.f9, .slice x.g.rp x.g.rl x.g.rc, .int .u64 x.g.f11, .int .i64 x.g.m.code, .int .u64 x.g.f13, .int .i64 x.g.f14, .int .u64 x.g.f15, .int .i64 x.g.f16, .int .u64 x.g.m.stamp, .slice x.g.lp x.g.ll x.g.lc] ty_law23_Step (0, 0)) :: Prt.one bq (.cells #[.int .i64 q.kind, .int .i64 q.frm, .int .i64 q.to, .int .u64 q.call, .int .u64 0, .int .i64 q.op, .int .i64 0, .int .i64 q.item, .int .i64 q.tgt.n, .int .u64 q.tgt.s, .slice none 0 0, .int .u64 0, .int .i64 0, .int .u64 0, .int .i64 0, .int .u64 0, .int .i64 0, .int .u64 q.stamp, .slice none 0 0] ty_api_Msg (0, 0)) :: Prt.one bc (.cells #[.int .i64 c.a0, .int .i64 c.a1, .int .i64 c.a2, .int .i64 c.a3, .int .i64 c.a4, .int .i64 c.a5, .int .i64 c.a6, .int .i64 c.a7, .int .i64 c.a8, .int .i64 c.a9, .int .i64 c.a10, .int .u64 c.a11, .int .u64 c.a12, .int .u64 c.a13, .int .u64 c.a14, .int .u64 c.a15, .int .u64 c.a16, .int .i64 c.a17, .int .i64 c.a18, .int .i64 c.a19, .int .u64 c.a20, .int .u64 c.a21] ty_api_Config (0, 0)) :: L) _ := g4
  clear g1 g2 g3 h
  have hxl : x.l.length = x.ll := by simpa using hx.rd.1
  have hxs := hx.sz
  intro R86 hR86
  have hQ86 : ∀ bm (g : Mg) H', g.ll = g.m.list.length → g.ll ≤ 4 → (∀ v ∈ g.m.list, 0 ≤ v ∧ v < 18446744073709551616) → g.ll = 0 → St H0 (Prt.row 1 g.lp g.ll g.lc (g.m.list.map (Value.int .u64)) :: Prt.one bm (.cells g.cells.toArray ty_api_Msg (0, 0)) :: Prt.one bz (.cells #[.int .i64 0, .int .i64 0, .int .i64 0, .int .u64 0, .int .u64 0, .int .i64 0, .int .i64 0, .int .i64 0, .int .i64 0, .int .u64 0, .slice none 0 0, .int .u64 0, .int .i64 0, .int .u64 0, .int .i64 0, .int .u64 0, .int .i64 0, .int .u64 0, .slice none 0 0] ty_api_Msg (0, 0)) :: Prt.one bx (.cells #[.int .i64 x.what, .int .i64 x.code, .int .i64 x.off, .int .u64 x.stamp, .int .u64 x.n, .slice x.lp x.ll x.lc, .bool x.near, .int .i64 x.g.m.kind, .int .i64 x.g.m.frm, .int .i64 x.g.m.to, .int .u64 x.g.m.call, .int .u64 x.g.f4, .int .i64 x.g.f5, .int .i64 x.g.f6, .int .i64 x.g.m.item, .int .i64 x.g.f8, .int .u64 x.g.f9, .slice x.g.rp x.g.rl x.g.rc, .int .u64 x.g.f11, .int .i64 x.g.m.code, .int .u64 x.g.f13, .int .i64 x.g.f14, .int .u64 x.g.f15, .int .i64 x.g.f16, .int .u64 x.g.m.stamp, .slice x.g.lp x.g.ll x.g.lc] ty_law23_Step (0, 0)) :: Prt.one bq (.cells #[.int .i64 q.kind, .int .i64 q.frm, .int .i64 q.to, .int .u64 q.call, .int .u64 0, .int .i64 q.op, .int .i64 0, .int .i64 q.item, .int .i64 q.tgt.n, .int .u64 q.tgt.s, .slice none 0 0, .int .u64 0, .int .i64 0, .int .u64 0, .int .i64 0, .int .u64 0, .int .i64 0, .int .u64 q.stamp, .slice none 0 0] ty_api_Msg (0, 0)) :: Prt.one bc (.cells #[.int .i64 c.a0, .int .i64 c.a1, .int .i64 c.a2, .int .i64 c.a3, .int .i64 c.a4, .int .i64 c.a5, .int .i64 c.a6, .int .i64 c.a7, .int .i64 c.a8, .int .i64 c.a9, .int .i64 c.a10, .int .u64 c.a11, .int .u64 c.a12, .int .u64 c.a13, .int .u64 c.a14, .int .u64 c.a15, .int .u64 c.a16, .int .i64 c.a17, .int .i64 c.a18, .int .i64 c.a19, .int .u64 c.a20, .int .u64 c.a21] ty_api_Config (0, 0)) :: L) H' → R86 (some ⟨bm, 0, none⟩) H' := by
    intro bm g H' c1 c2 c3 c4 g5
    refine hR86 _ H' ?_
    clear hR86 g4
    intro R89 hR89
    have hQ89 : ∀ (g : Mg) H', g.ll = g.m.list.length → g.ll ≤ 4 → (∀ v ∈ g.m.list, 0 ≤ v ∧ v < 18446744073709551616) → g.ll = 0 → St H0 (Prt.row 1 g.lp g.ll g.lc (g.m.list.map (Value.int .u64)) :: Prt.one bm (.cells g.cells.toArray ty_api_Msg (0, 0)) :: Prt.one bz (.cells #[.int .i64 0, .int .i64 0, .int .i64 0, .int .u64 0, .int .u64 0, .int .i64 0, .int .i64 0, .int .i64 0, .int .i64 0, .int .u64 0, .slice none 0 0, .int .u64 0, .int .i64 0, .int .u64 0, .int .i64 0, .int .u64 0, .int .i64 0, .int .u64 0, .slice none 0 0] ty_api_Msg (0, 0)) :: Prt.one bx (.cells #[.int .i64 x.what, .int .i64 x.code, .int .i64 x.off, .int .u64 x.stamp, .int .u64 x.n, .slice x.lp x.ll x.lc, .bool x.near, .int .i64 x.g.m.kind, .int .i64 x.g.m.frm, .int .i64 x.g.m.to, .int .u64 x.g.m.call, .int .u64 x.g.f4, .int .i64 x.g.f5, .int .i64 x.g.f6, .int .i64 x.g.m.item, .int .i64 x.g.f8, .int .u64 x.g.f9, .slice x.g.rp x.g.rl x.g.rc, .int .u64 x.g.f11, .int .i64 x.g.m.code, .int .u64 x.g.f13, .int .i64 x.g.f14, .int .u64 x.g.f15, .int .i64 x.g.f16, .int .u64 x.g.m.stamp, .slice x.g.lp x.g.ll x.g.lc] ty_law23_Step (0, 0)) :: Prt.one bq (.cells #[.int .i64 q.kind, .int .i64 q.frm, .int .i64 q.to, .int .u64 q.call, .int .u64 0, .int .i64 q.op, .int .i64 0, .int .i64 q.item, .int .i64 q.tgt.n, .int .u64 q.tgt.s, .slice none 0 0, .int .u64 0, .int .i64 0, .int .u64 0, .int .i64 0, .int .u64 0, .int .i64 0, .int .u64 q.stamp, .slice none 0 0] ty_api_Msg (0, 0)) :: Prt.one bc (.cells #[.int .i64 c.a0, .int .i64 c.a1, .int .i64 c.a2, .int .i64 c.a3, .int .i64 c.a4, .int .i64 c.a5, .int .i64 c.a6, .int .i64 c.a7, .int .i64 c.a8, .int .i64 c.a9, .int .i64 c.a10, .int .u64 c.a11, .int .u64 c.a12, .int .u64 c.a13, .int .u64 c.a14, .int .u64 c.a15, .int .u64 c.a16, .int .i64 c.a17, .int .i64 c.a18, .int .i64 c.a19, .int .u64 c.a20, .int .u64 c.a21] ty_api_Config (0, 0)) :: L) H' → R89 H' := by
      clear g5 c1 c2 c3 c4 g H'
      intro g H' c1 c2 c3 c4 g5
      refine hR89 H' ?_
      clear hR89
      intro R91 hR91
      have hQ91 : ∀ (g : Mg) H', g.ll = g.m.list.length → g.ll ≤ 4 → (∀ v ∈ g.m.list, 0 ≤ v ∧ v < 18446744073709551616) → g.ll = 0 → St H0 (Prt.row 1 g.lp g.ll g.lc (g.m.list.map (Value.int .u64)) :: Prt.one bm (.cells g.cells.toArray ty_api_Msg (0, 0)) :: Prt.one bz (.cells #[.int .i64 0, .int .i64 0, .int .i64 0, .int .u64 0, .int .u64 0, .int .i64 0, .int .i64 0, .int .i64 0, .int .i64 0, .int .u64 0, .slice none 0 0, .int .u64 0, .int .i64 0, .int .u64 0, .int .i64 0, .int .u64 0, .int .i64 0, .int .u64 0, .slice none 0 0] ty_api_Msg (0, 0)) :: Prt.one bx (.cells #[.int .i64 x.what, .int .i64 x.code, .int .i64 x.off, .int .u64 x.stamp, .int .u64 x.n, .slice x.lp x.ll x.lc, .bool x.near, .int .i64 x.g.m.kind, .int .i64 x.g.m.frm, .int .i64 x.g.m.to, .int .u64 x.g.m.call, .int .u64 x.g.f4, .int .i64 x.g.f5, .int .i64 x.g.f6, .int .i64 x.g.m.item, .int .i64 x.g.f8, .int .u64 x.g.f9, .slice x.g.rp x.g.rl x.g.rc, .int .u64 x.g.f11, .int .i64 x.g.m.code, .int .u64 x.g.f13, .int .i64 x.g.f14, .int .u64 x.g.f15, .int .i64 x.g.f16, .int .u64 x.g.m.stamp, .slice x.g.lp x.g.ll x.g.lc] ty_law23_Step (0, 0)) :: Prt.one bq (.cells #[.int .i64 q.kind, .int .i64 q.frm, .int .i64 q.to, .int .u64 q.call, .int .u64 0, .int .i64 q.op, .int .i64 0, .int .i64 q.item, .int .i64 q.tgt.n, .int .u64 q.tgt.s, .slice none 0 0, .int .u64 0, .int .i64 0, .int .u64 0, .int .i64 0, .int .u64 0, .int .i64 0, .int .u64 q.stamp, .slice none 0 0] ty_api_Msg (0, 0)) :: Prt.one bc (.cells #[.int .i64 c.a0, .int .i64 c.a1, .int .i64 c.a2, .int .i64 c.a3, .int .i64 c.a4, .int .i64 c.a5, .int .i64 c.a6, .int .i64 c.a7, .int .i64 c.a8, .int .i64 c.a9, .int .i64 c.a10, .int .u64 c.a11, .int .u64 c.a12, .int .u64 c.a13, .int .u64 c.a14, .int .u64 c.a15, .int .u64 c.a16, .int .i64 c.a17, .int .i64 c.a18, .int .i64 c.a19, .int .u64 c.a20, .int .u64 c.a21] ty_api_Config (0, 0)) :: L) H' → R91 H' := by
        clear g5 c1 c2 c3 c4 g H'
        intro g H' c1 c2 c3 c4 g5
        refine hR91 H' ?_
        clear hR91
        intro R93 hR93
        have hQ93 : ∀ (g : Mg) H', g.ll = g.m.list.length → g.ll ≤ 4 → (∀ v ∈ g.m.list, 0 ≤ v ∧ v < 18446744073709551616) → St H0 (Prt.row 1 g.lp g.ll g.lc (g.m.list.map (Value.int .u64)) :: Prt.one bm (.cells g.cells.toArray ty_api_Msg (0, 0)) :: Prt.one bz (.cells #[.int .i64 0, .int .i64 0, .int .i64 0, .int .u64 0, .int .u64 0, .int .i64 0, .int .i64 0, .int .i64 0, .int .i64 0, .int .u64 0, .slice none 0 0, .int .u64 0, .int .i64 0, .int .u64 0, .int .i64 0, .int .u64 0, .int .i64 0, .int .u64 0, .slice none 0 0] ty_api_Msg (0, 0)) :: Prt.one bx (.cells #[.int .i64 x.what, .int .i64 x.code, .int .i64 x.off, .int .u64 x.stamp, .int .u64 x.n, .slice x.lp x.ll x.lc, .bool x.near, .int .i64 x.g.m.kind, .int .i64 x.g.m.frm, .int .i64 x.g.m.to, .int .u64 x.g.m.call, .int .u64 x.g.f4, .int .i64 x.g.f5, .int .i64 x.g.f6, .int .i64 x.g.m.item, .int .i64 x.g.f8, .int .u64 x.g.f9, .slice x.g.rp x.g.rl x.g.rc, .int .u64 x.g.f11, .int .i64 x.g.m.code, .int .u64 x.g.f13, .int .i64 x.g.f14, .int .u64 x.g.f15, .int .i64 x.g.f16, .int .u64 x.g.m.stamp, .slice x.g.lp x.g.ll x.g.lc] ty_law23_Step (0, 0)) :: Prt.one bq (.cells #[.int .i64 q.kind, .int .i64 q.frm, .int .i64 q.to, .int .u64 q.call, .int .u64 0, .int .i64 q.op, .int .i64 0, .int .i64 q.item, .int .i64 q.tgt.n, .int .u64 q.tgt.s, .slice none 0 0, .int .u64 0, .int .i64 0, .int .u64 0, .int .i64 0, .int .u64 0, .int .i64 0, .int .u64 q.stamp, .slice none 0 0] ty_api_Msg (0, 0)) :: Prt.one bc (.cells #[.int .i64 c.a0, .int .i64 c.a1, .int .i64 c.a2, .int .i64 c.a3, .int .i64 c.a4, .int .i64 c.a5, .int .i64 c.a6, .int .i64 c.a7, .int .i64 c.a8, .int .i64 c.a9, .int .i64 c.a10, .int .u64 c.a11, .int .u64 c.a12, .int .u64 c.a13, .int .u64 c.a14, .int .u64 c.a15, .int .u64 c.a16, .int .i64 c.a17, .int .i64 c.a18, .int .i64 c.a19, .int .u64 c.a20, .int .u64 c.a21] ty_api_Config (0, 0)) :: L) H' → R93 H' := by
          clear g5 c1 c2 c3 c4 g H'
          intro g H' c1 c2 c3 g5
          refine hR93 H' ?_
          clear hR93
          intro R95 hR95
          have hQ95 : ∀ (g : Mg) H', g.ll = g.m.list.length → g.ll ≤ 4 → (∀ v ∈ g.m.list, 0 ≤ v ∧ v < 18446744073709551616) → St H0 (Prt.row 1 g.lp g.ll g.lc (g.m.list.map (Value.int .u64)) :: Prt.one bm (.cells g.cells.toArray ty_api_Msg (0, 0)) :: Prt.one bz (.cells #[.int .i64 0, .int .i64 0, .int .i64 0, .int .u64 0, .int .u64 0, .int .i64 0, .int .i64 0, .int .i64 0, .int .i64 0, .int .u64 0, .slice none 0 0, .int .u64 0, .int .i64 0, .int .u64 0, .int .i64 0, .int .u64 0, .int .i64 0, .int .u64 0, .slice none 0 0] ty_api_Msg (0, 0)) :: Prt.one bx (.cells #[.int .i64 x.what, .int .i64 x.code, .int .i64 x.off, .int .u64 x.stamp, .int .u64 x.n, .slice x.lp x.ll x.lc, .bool x.near, .int .i64 x.g.m.kind, .int .i64 x.g.m.frm, .int .i64 x.g.m.to, .int .u64 x.g.m.call, .int .u64 x.g.f4, .int .i64 x.g.f5, .int .i64 x.g.f6, .int .i64 x.g.m.item, .int .i64 x.g.f8, .int .u64 x.g.f9, .slice x.g.rp x.g.rl x.g.rc, .int .u64 x.g.f11, .int .i64 x.g.m.code, .int .u64 x.g.f13, .int .i64 x.g.f14, .int .u64 x.g.f15, .int .i64 x.g.f16, .int .u64 x.g.m.stamp, .slice x.g.lp x.g.ll x.g.lc] ty_law23_Step (0, 0)) :: Prt.one bq (.cells #[.int .i64 q.kind, .int .i64 q.frm, .int .i64 q.to, .int .u64 q.call, .int .u64 0, .int .i64 q.op, .int .i64 0, .int .i64 q.item, .int .i64 q.tgt.n, .int .u64 q.tgt.s, .slice none 0 0, .int .u64 0, .int .i64 0, .int .u64 0, .int .i64 0, .int .u64 0, .int .i64 0, .int .u64 q.stamp, .slice none 0 0] ty_api_Msg (0, 0)) :: Prt.one bc (.cells #[.int .i64 c.a0, .int .i64 c.a1, .int .i64 c.a2, .int .i64 c.a3, .int .i64 c.a4, .int .i64 c.a5, .int .i64 c.a6, .int .i64 c.a7, .int .i64 c.a8, .int .i64 c.a9, .int .i64 c.a10, .int .u64 c.a11, .int .u64 c.a12, .int .u64 c.a13, .int .u64 c.a14, .int .u64 c.a15, .int .u64 c.a16, .int .i64 c.a17, .int .i64 c.a18, .int .i64 c.a19, .int .u64 c.a20, .int .u64 c.a21] ty_api_Config (0, 0)) :: L) H' → R95 H' := by
            clear g5 c1 c2 c3 g H'
            intro g H' c1 c2 c3 g5
            refine hR95 H' ?_
            clear hR95
            (try simp only [asI_mk', asB_mk, asP_mk, asA_mk, asM_mk, asSl_mk, asStr_mk, tup2_mk, tup3_mk, agg1_mk, agg2_mk, agg3_mk, agg4_mk, asAggm, unCons_mk, unNil_mk, asTup_mk, extractD0, extractD1, List.toList_toArray, nilP_mk, add_mk, Nat.zero_add, Nat.add_zero, condT, condF, Bool.not_true, Bool.not_false, Option.isNone_some, Option.isNone_none])
            refine ldI_of (g5.cell (i := 1) rfl rfl) (ldI_of (g5.cell (i := 1) rfl rfl) (ldI_of (g5.cell (i := 1) rfl rfl) (ldI_of (g5.cell (i := 1) rfl rfl) (ldI_of (g5.cell (i := 1) rfl rfl) (ldI_of (g5.cell (i := 1) rfl rfl) (ldI_of (g5.cell (i := 1) rfl rfl) (ldI_of (g5.cell (i := 1) rfl rfl) (ldI_of (g5.cell (i := 1) rfl rfl) (ldI_of (g5.cell (i := 1) rfl rfl) (ldSl_of (g5.cell (i := 1) rfl rfl) (ldI_of (g5.cell (i := 1) rfl rfl) (ldI_of (g5.cell (i := 1) rfl rfl) (ldI_of (g5.cell (i := 1) rfl rfl) (ldI_of (g5.cell (i := 1) rfl rfl) (ldI_of (g5.cell (i := 1) rfl rfl) (ldI_of (g5.cell (i := 1) rfl rfl) (ldI_of (g5.cell (i := 1) rfl rfl) (ldSl_of (g5.cell (i := 1) rfl rfl) (?_)))))))))))))))))))
            refine St.sets (i := 2) (o := 0) (vs := g.cells) g5 rfl (by simp [Mg.cells]) fun H6 g6 => ?_
            rw [setsA_all (by rfl)] at g6
            refine ldI_of (g6.cell (i := 2) rfl rfl) (ldI_of (g6.cell (i := 2) rfl rfl) (ldI_of (g6.cell (i := 2) rfl rfl) (ldI_of (g6.cell (i := 2) rfl rfl) (ldI_of (g6.cell (i := 2) rfl rfl) (ldI_of (g6.cell (i := 2) rfl rfl) (ldI_of (g6.cell (i := 2) rfl rfl) (ldI_of (g6.cell (i := 2) rfl rfl) (ldI_of (g6.cell (i := 2) rfl rfl) (ldI_of (g6.cell (i := 2) rfl rfl) (ldSl_of (g6.cell (i := 2) rfl rfl) (ldI_of (g6.cell (i := 2) rfl rfl) (ldI_of (g6.cell (i := 2) rfl rfl) (ldI_of (g6.cell (i := 2) rfl rfl) (ldI_of (g6.cell (i := 2) rfl rfl) (ldI_of (g6.cell (i := 2) rfl rfl) (ldI_of (g6.cell (i := 2) rfl rfl) (ldI_of (g6.cell (i := 2) rfl rfl) (ldSl_of (g6.cell (i := 2) rfl rfl) (?_)))))))))))))))))))
            exact hK g H6 c1 c2 c3 (St.keep1 (N := [_, _, _, _, _]) g6)
          clear hR95
          (try simp only [asI_mk', asB_mk, asP_mk, asA_mk, asM_mk, asSl_mk, asStr_mk, tup2_mk, tup3_mk, agg1_mk, agg2_mk, agg3_mk, agg4_mk, asAggm, unCons_mk, unNil_mk, asTup_mk, extractD0, extractD1, List.toList_toArray, nilP_mk, add_mk, Nat.zero_add, Nat.add_zero, condT, condF, Bool.not_true, Bool.not_false, Option.isNone_some, Option.isNone_none])
          refine ldI_of (g5.cell (i := 3) rfl rfl) (Pick_ok (by decide) (by decide) ?_)
          (try simp only [asI_mk', asB_mk, asP_mk, asA_mk, asM_mk, asSl_mk, asStr_mk, tup2_mk, tup3_mk, agg1_mk, agg2_mk, agg3_mk, agg4_mk, asAggm, unCons_mk, unNil_mk, asTup_mk, extractD0, extractD1, List.toList_toArray, nilP_mk, add_mk, Nat.zero_add, Nat.add_zero, condT, condF, Bool.not_true, Bool.not_false, Option.isNone_some, Option.isNone_none])
          by_cases f1 : pick x.off 24 = 1
          · refine bif_eq f1 (g5.put (i := 1) rfl (show 17 < 19 by decide) fun H6 g6 => ?_)
            exact hQ95 { g with m := { g.m with stamp := 4 } } H6 c1 c2 c3 g6
          refine bif_ne f1 ?_
          by_cases f2 : pick x.off 24 = 2
          · refine bif_eq f2 (ldI_of (g5.cell (i := 1) rfl rfl) (g5.put (i := 1) rfl (show 7 < 19 by decide) fun H6 g6 => ?_))
            exact hQ95 { g with m := { g.m with item := IntKind.i64.wrap (g.m.item + 1) } } H6 c1 c2 c3 g6
          refine bif_ne f2 ?_
          by_cases f3 : pick x.off 24 = 3
          · refine bif_eq f3 (ldI_of (g5.cell (i := 1) rfl rfl) (g5.put (i := 1) rfl (show 3 < 19 by decide) fun H6 g6 => ?_))
            exact hQ95 { g with m := { g.m with call := IntKind.u64.wrap (g.m.call + 1) } } H6 c1 c2 c3 g6
          refine bif_ne f3 ?_
          by_cases f4 : pick x.off 24 = 4
          · refine bif_eq f4 (ldI_of (g5.cell (i := 1) rfl rfl) (ldI_of (g5.cell (i := 5) rfl rfl) ⟨by omega, g5.put (i := 1) rfl (show 1 < 19 by decide) fun H6 g6 => ?_⟩))
            exact hQ95 { g with m := { g.m with frm := IntKind.i64.wrap (1 + Int.tmod g.m.frm c.a0) } } H6 c1 c2 c3 g6
          refine bif_ne f4 ?_
          by_cases f5 : pick x.off 24 = 5
          · refine bif_eq f5 (g5.put (i := 1) rfl (show 0 < 19 by decide) fun H6 g6 => ?_)
            exact hQ95 { g with m := { g.m with kind := 11 } } H6 c1 c2 c3 g6
          refine bif_ne f5 ?_
          by_cases f6 : pick x.off 24 = 6
          · refine bif_eq f6 (ldI_of (g5.cell (i := 1) rfl rfl) (g5.put (i := 1) rfl (show 2 < 19 by decide) fun H6 g6 => ?_))
            exact hQ95 { g with m := { g.m with to := IntKind.i64.wrap (g.m.to + 1) } } H6 c1 c2 c3 g6
          refine bif_ne f6 ?_
          exact hQ95 g H' c1 c2 c3 g5
        clear hR93
        refine ⟨fun j H' => ∃ (k : Nat) (y : Mg), j = k ∧ y.ll = k ∧ y.ll = y.m.list.length ∧ y.ll ≤ 4 ∧ (∀ v ∈ y.m.list, 0 ≤ v ∧ v < 18446744073709551616) ∧ St H0 (Prt.row 1 y.lp y.ll y.lc (y.m.list.map (Value.int .u64)) :: Prt.one bm (.cells y.cells.toArray ty_api_Msg (0, 0)) :: Prt.one bz (.cells #[.int .i64 0, .int .i64 0, .int .i64 0, .int .u64 0, .int .u64 0, .int .i64 0, .int .i64 0, .int .i64 0, .int .i64 0, .int .u64 0, .slice none 0 0, .int .u64 0, .int .i64 0, .int .u64 0, .int .i64 0, .int .u64 0, .int .i64 0, .int .u64 0, .slice none 0 0] ty_api_Msg (0, 0)) :: Prt.one bx (.cells #[.int .i64 x.what, .int .i64 x.code, .int .i64 x.off, .int .u64 x.stamp, .int .u64 x.n, .slice x.lp x.ll x.lc, .bool x.near, .int .i64 x.g.m.kind, .int .i64 x.g.m.frm, .int .i64 x.g.m.to, .int .u64 x.g.m.call, .int .u64 x.g.f4, .int .i64 x.g.f5, .int .i64 x.g.f6, .int .i64 x.g.m.item, .int .i64 x.g.f8, .int .u64 x.g.f9, .slice x.g.rp x.g.rl x.g.rc, .int .u64 x.g.f11, .int .i64 x.g.m.code, .int .u64 x.g.f13, .int .i64 x.g.f14, .int .u64 x.g.f15, .int .i64 x.g.f16, .int .u64 x.g.m.stamp, .slice x.g.lp x.g.ll x.g.lc] ty_law23_Step (0, 0)) :: Prt.one bq (.cells #[.int .i64 q.kind, .int .i64 q.frm, .int .i64 q.to, .int .u64 q.call, .int .u64 0, .int .i64 q.op, .int .i64 0, .int .i64 q.item, .int .i64 q.tgt.n, .int .u64 q.tgt.s, .slice none 0 0, .int .u64 0, .int .i64 0, .int .u64 0, .int .i64 0, .int .u64 0, .int .i64 0, .int .u64 q.stamp, .slice none 0 0] ty_api_Msg (0, 0)) :: Prt.one bc (.cells #[.int .i64 c.a0, .int .i64 c.a1, .int .i64 c.a2, .int .i64 c.a3, .int .i64 c.a4, .int .i64 c.a5, .int .i64 c.a6, .int .i64 c.a7, .int .i64 c.a8, .int .i64 c.a9, .int .i64 c.a10, .int .u64 c.a11, .int .u64 c.a12, .int .u64 c.a13, .int .u64 c.a14, .int .u64 c.a15, .int .u64 c.a16, .int .i64 c.a17, .int .i64 c.a18, .int .i64 c.a19, .int .u64 c.a20, .int .u64 c.a21] ty_api_Config (0, 0)) :: L) H', fun j _ => (4 - j).toNat, ⟨0, g, rfl, c4, c1, c2, c3, g5⟩, ?_⟩
        clear g5 c1 c2 c3 c4 g H'
        rintro j H' ⟨k, y, rfl, hk, h1, h2, h3, g⟩
        refine ldSl_of (g.cell (i := 3) rfl rfl) ?_
        by_cases hkl : (k : Int) < (x.ll : Int)
        rotate_left
        · exact bif_neg hkl (hQ93 y H' h1 h2 h3 g)
        refine bif_pos hkl ?_
        by_cases hk4 : (k : Int) < 4
        rotate_left
        · exact bif_neg hk4 (hQ93 y H' h1 h2 h3 g)
        refine bif_pos hk4 ?_
        clear hQ93
        intro R195 hR195
        refine ldI_of (g.cell (i := 4) rfl rfl) ?_
        have hv : 0 ≤ x.l.getD k 0 ∧ x.l.getD k 0 < 18446744073709551616 := by
          rw [List.getD_eq_getElem?_getD, List.getElem?_eq_getElem (by omega)]
          exact hx.pos _ (List.getElem_mem _)
        by_cases k3 : q.op = 1
        · refine bif_eq k3 ?_
          (try simp only [asI_mk', asB_mk, asP_mk, asA_mk, asM_mk, asSl_mk, asStr_mk, tup2_mk, tup3_mk, agg1_mk, agg2_mk, agg3_mk, agg4_mk, asAggm, unCons_mk, unNil_mk, asTup_mk, extractD0, extractD1, List.toList_toArray, nilP_mk, add_mk, Nat.zero_add, Nat.add_zero, condT, condF, Bool.not_true, Bool.not_false, Option.isNone_some, Option.isNone_none])
          refine ldSl_of (g.cell (i := 1) rfl rfl) (ldSl_of (g.cell (i := 3) rfl rfl) (idx1 (d := (0 : Int)) (g.rd hx.rd) (by omega) hkl fun b o _ cc => ldI_of cc (ldI_of (g.cell (i := 5) rfl rfl) ?_)))
          rw [Int.toNat_natCast, wrap_i64 (n := c.a0 + 1) (by omega) (by omega), wrap_u64' (n := c.a0 + 1) (by omega) (by omega)]
          refine ⟨by omega, ?_⟩
          obtain ⟨z, hz⟩ : ∃ z, z = Int.tmod (x.l.getD k 0) (c.a0 + 1) := ⟨_, rfl⟩
          rw [← hz]
          have hzb : 0 ≤ z ∧ z < 18446744073709551616 := by
            rw [hz, Int.tmod_eq_emod_of_nonneg (by omega)]
            have := Int.emod_nonneg (x.l.getD k 0) (show c.a0 + 1 ≠ 0 by omega)
            have := Int.emod_lt_of_pos (x.l.getD k 0) (show 0 < c.a0 + 1 by omega)
            omega
          intro b5 hb5
          have g5 := g.alloc (o := .cells #[.int .u64 z] ty_uint64) hb5
          refine ⟨ldSl_of (g5.cell (i := 2) rfl rfl) rfl, ?_⟩
          (try simp only [asI_mk', asB_mk, asP_mk, asA_mk, asM_mk, asSl_mk, asStr_mk, tup2_mk, tup3_mk, agg1_mk, agg2_mk, agg3_mk, agg4_mk, asAggm, unCons_mk, unNil_mk, asTup_mk, extractD0, extractD1, List.toList_toArray, nilP_mk, add_mk, Nat.zero_add, Nat.add_zero, condT, condF, Bool.not_true, Bool.not_false, Option.isNone_some, Option.isNone_none])
          refine g5.app (i := 1) rfl tu_ty_Suint64 tu_ty_Suint64 ti_ty_uint64 rfl (by decide) (g5.one_rd (i := 0) (n := 1) rfl rfl) (fun z hz => by simp at hz; rw [hz]; rfl) (by omega) fun p' cap' H' g' => ?_
          have e : y.m.list.map (Value.int .u64) ++ (#[Value.int .u64 z] : Array Value).toList = (y.m.list ++ [z]).map (Value.int .u64) := by simp
          rw [e] at g'
          have g' := g'.less
          (try simp only [asI_mk', asB_mk, asP_mk, asA_mk, asM_mk, asSl_mk, asStr_mk, tup2_mk, tup3_mk, agg1_mk, agg2_mk, agg3_mk, agg4_mk, asAggm, unCons_mk, unNil_mk, asTup_mk, extractD0, extractD1, List.toList_toArray, nilP_mk, add_mk, Nat.zero_add, Nat.add_zero, condT, condF, Bool.not_true, Bool.not_false, Option.isNone_some, Option.isNone_none])
          refine g'.put (i := 1) rfl (show 18 < 19 by decide) fun H6 g6 => ?_
          refine hR195 H6 ?_
          rw [wrap_i64 (by omega) (by omega)]
          refine ⟨⟨k + 1, { y with m := { y.m with list := y.m.list ++ [z] }, lp := p', ll := y.ll + 1, lc := cap' }, by omega, by (try dsimp only); omega, ?_, ?_, ?_, g6⟩, by (try dsimp only); omega⟩
          · show y.ll + 1 = (y.m.list ++ [_]).length
            rw [List.length_append, List.length_singleton]; omega
          · show y.ll + 1 ≤ 4
            omega
          · intro w hw
            rcases List.mem_append.1 hw with hw | hw
            · exact h3 w hw
            · obtain rfl : w = z := by simpa using hw
              omega
        · refine bif_ne k3 ?_
          (try simp only [asI_mk', asB_mk, asP_mk, asA_mk, asM_mk, asSl_mk, asStr_mk, tup2_mk, tup3_mk, agg1_mk, agg2_mk, agg3_mk, agg4_mk, asAggm, unCons_mk, unNil_mk, asTup_mk, extractD0, extractD1, List.toList_toArray, nilP_mk, add_mk, Nat.zero_add, Nat.add_zero, condT, condF, Bool.not_true, Bool.not_false, Option.isNone_some, Option.isNone_none])
          refine ldSl_of (g.cell (i := 1) rfl rfl) (ldSl_of (g.cell (i := 3) rfl rfl) (idx1 (d := (0 : Int)) (g.rd hx.rd) (by omega) hkl fun b o _ cc => ldI_of cc ⟨by decide, ?_⟩))
          rw [Int.toNat_natCast]
          obtain ⟨z, hz⟩ : ∃ z, z = IntKind.u64.wrap (1 + Int.tmod (x.l.getD k 0) 4) := ⟨_, rfl⟩
          rw [← hz]
          have hzb : 0 ≤ z ∧ z < 18446744073709551616 := by
            rw [hz, Int.tmod_eq_emod_of_nonneg (by omega)]
            have := Int.emod_nonneg (x.l.getD k 0) (show (4 : Int) ≠ 0 by omega)
            have := Int.emod_lt_of_pos (x.l.getD k 0) (show (0 : Int) < 4 by omega)
            rw [wrap_u64' (by omega) (by omega)]
            omega
          intro b5 hb5
          have g5 := g.alloc (o := .cells #[.int .u64 z] ty_uint64) hb5
          refine ⟨ldSl_of (g5.cell (i := 2) rfl rfl) rfl, ?_⟩
          (try simp only [asI_mk', asB_mk, asP_mk, asA_mk, asM_mk, asSl_mk, asStr_mk, tup2_mk, tup3_mk, agg1_mk, agg2_mk, agg3_mk, agg4_mk, asAggm, unCons_mk, unNil_mk, asTup_mk, extractD0, extractD1, List.toList_toArray, nilP_mk, add_mk, Nat.zero_add, Nat.add_zero, condT, condF, Bool.not_true, Bool.not_false, Option.isNone_some, Option.isNone_none])
          refine g5.app (i := 1) rfl tu_ty_Suint64 tu_ty_Suint64 ti_ty_uint64 rfl (by decide) (g5.one_rd (i := 0) (n := 1) rfl rfl) (fun z hz => by simp at hz; rw [hz]; rfl) (by omega) fun p' cap' H' g' => ?_
          have e : y.m.list.map (Value.int .u64) ++ (#[Value.int .u64 z] : Array Value).toList = (y.m.list ++ [z]).map (Value.int .u64) := by simp
          rw [e] at g'
          have g' := g'.less
          (try simp only [asI_mk', asB_mk, asP_mk, asA_mk, asM_mk, asSl_mk, asStr_mk, tup2_mk, tup3_mk, agg1_mk, agg2_mk, agg3_mk, agg4_mk, asAggm, unCons_mk, unNil_mk, asTup_mk, extractD0, extractD1, List.toList_toArray, nilP_mk, add_mk, Nat.zero_add, Nat.add_zero, condT, condF, Bool.not_true, Bool.not_false, Option.isNone_some, Option.isNone_none])
          refine g'.put (i := 1) rfl (show 18 < 19 by decide) fun H6 g6 => ?_
          refine hR195 H6 ?_
          rw [wrap_i64 (by omega) (by omega)]
          refine ⟨⟨k + 1, { y with m := { y.m with list := y.m.list ++ [z] }, lp := p', ll := y.ll + 1, lc := cap' }, by omega, by (try dsimp only); omega, ?_, ?_, ?_, g6⟩, by (try dsimp only); omega⟩
          · show y.ll + 1 = (y.m.list ++ [_]).length
            rw [List.length_append, List.length_singleton]; omega
          · show y.ll + 1 ≤ 4
            omega
          · intro w hw
            rcases List.mem_append.1 hw with hw | hw
            · exact h3 w hw
            · obtain rfl : w = z := by simpa using hw
              omega
      clear hR91
      (try simp only [asI_mk', asB_mk, asP_mk, asA_mk, asM_mk, asSl_mk, asStr_mk, tup2_mk, tup3_mk, agg1_mk, agg2_mk, agg3_mk, agg4_mk, asAggm, unCons_mk, unNil_mk, asTup_mk, extractD0, extractD1, List.toList_toArray, nilP_mk, add_mk, Nat.zero_add, Nat.add_zero, condT, condF, Bool.not_true, Bool.not_false, Option.isNone_some, Option.isNone_none])
      refine ldI_of (g5.cell (i := 1) rfl rfl) ?_
      by_cases k1 : g.m.code > 3
      · refine bif_pos k1 (g5.put (i := 1) rfl (show 12 < 19 by decide) fun H6 g6 => ?_)
        exact hQ91 { g with m := { g.m with code := 2 } } H6 c1 c2 c3 c4 g6
      · exact bif_neg k1 (hQ91 g H' c1 c2 c3 c4 g5)
    clear hR89
    (try simp only [asI_mk', asB_mk, asP_mk, asA_mk, asM_mk, asSl_mk, asStr_mk, tup2_mk, tup3_mk, agg1_mk, agg2_mk, agg3_mk, agg4_mk, asAggm, unCons_mk, unNil_mk, asTup_mk, extractD0, extractD1, List.toList_toArray, nilP_mk, add_mk, Nat.zero_add, Nat.add_zero, condT, condF, Bool.not_true, Bool.not_false, Option.isNone_some, Option.isNone_none])
    refine ldI_of (g5.cell (i := 4) rfl rfl) ?_
    by_cases k1 : q.kind = 10
    · refine bif_eq k1 (g5.put (i := 1) rfl (show 0 < 19 by decide) fun H6 g6 => ?_)
      exact hQ89 { g with m := { g.m with kind := 11 } } H6 c1 c2 c3 c4 g6
    · exact bif_ne k1 (hQ89 g H' c1 c2 c3 c4 g5)
  clear hR86
  have fin : ∀ bm (code : Int) H', St H0 (Prt.one bm (.cells #[.int .i64 9, .int .i64 q.to, .int .i64 q.frm, .int .u64 q.call, .int .u64 0, .int .i64 0, .int .i64 0, .int .i64 q.item, .int .i64 0, .int .u64 0, .slice none 0 0, .int .u64 0, .int .i64 code, .int .u64 0, .int .i64 0, .int .u64 0, .int .i64 0, .int .u64 3, .slice none 0 0] ty_api_Msg (0, 0)) :: Prt.one bz (.cells #[.int .i64 0, .int .i64 0, .int .i64 0, .int .u64 0, .int .u64 0, .int .i64 0, .int .i64 0, .int .i64 0, .int .i64 0, .int .u64 0, .slice none 0 0, .int .u64 0, .int .i64 0, .int .u64 0, .int .i64 0, .int .u64 0, .int .i64 0, .int .u64 0, .slice none 0 0] ty_api_Msg (0, 0)) :: Prt.one bx (.cells #[.int .i64 x.what, .int .i64 x.code, .int .i64 x.off, .int .u64 x.stamp, .int .u64 x.n, .slice x.lp x.ll x.lc, .bool x.near, .int .i64 x.g.m.kind, .int .i64 x.g.m.frm, .int .i64 x.g.m.to, .int .u64 x.g.m.call, .int .u64 x.g.f4, .int .i64 x.g.f5, .int .i64 x.g.f6, .int .i64 x.g.m.item, .int .i64 x.g.f8, .int .u64 x.g.f9, .slice x.g.rp x.g.rl x.g.rc, .int .u64 x.g.f11, .int .i64 x.g.m.code, .int .u64 x.g.f13, .int .i64 x.g.f14, .int .u64 x.g.f15, .int .i64 x.g.f16, .int .u64 x.g.m.stamp, .slice x.g.lp x.g.ll x.g.lc] ty_law23_Step (0, 0)) :: Prt.one bq (.cells #[.int .i64 q.kind, .int .i64 q.frm, .int .i64 q.to, .int .u64 q.call, .int .u64 0, .int .i64 q.op, .int .i64 0, .int .i64 q.item, .int .i64 q.tgt.n, .int .u64 q.tgt.s, .slice none 0 0, .int .u64 0, .int .i64 0, .int .u64 0, .int .i64 0, .int .u64 0, .int .i64 0, .int .u64 q.stamp, .slice none 0 0] ty_api_Msg (0, 0)) :: Prt.one bc (.cells #[.int .i64 c.a0, .int .i64 c.a1, .int .i64 c.a2, .int .i64 c.a3, .int .i64 c.a4, .int .i64 c.a5, .int .i64 c.a6, .int .i64 c.a7, .int .i64 c.a8, .int .i64 c.a9, .int .i64 c.a10, .int .u64 c.a11, .int .u64 c.a12, .int .u64 c.a13, .int .u64 c.a14, .int .u64 c.a15, .int .u64 c.a16, .int .i64 c.a17, .int .i64 c.a18, .int .i64 c.a19, .int .u64 c.a20, .int .u64 c.a21] ty_api_Config (0, 0)) :: L) H' → R86 (some ⟨bm, 0, none⟩) H' := fun bm code H' g => by
    refine hQ86 bm ⟨⟨9, q.to, q.frm, q.call, q.item, code, 3, []⟩, 0, 0, 0, 0, 0, 0, 0, 0, 0, 0, none, 0, 0, none, 0, 0⟩ H' rfl (by show 0 ≤ 4; omega) (fun v hv => by cases hv) rfl ?_
    exact g.row (H' := _) (Own.nil 1) ((Goes.refl Nothing _).less fun c hc => absurd hc blk_none)
  refine ldI_of (g4.cell (i := 2) rfl rfl) (ldI_of (g4.cell (i := 2) rfl rfl) (ldI_of (g4.cell (i := 2) rfl rfl) (ldI_of (g4.cell (i := 2) rfl rfl) (ldI_of (g4.cell (i := 1) rfl rfl) ⟨?_, ?_⟩))))
  · refine Pick_ok (by decide) (by decide) ?_
    (try simp only [asI_mk', asB_mk, asP_mk, asA_mk, asM_mk, asSl_mk, asStr_mk, tup2_mk, tup3_mk, agg1_mk, agg2_mk, agg3_mk, agg4_mk, asAggm, unCons_mk, unNil_mk, asTup_mk, extractD0, extractD1, List.toList_toArray, nilP_mk, add_mk, Nat.zero_add, Nat.add_zero, condT, condF, Bool.not_true, Bool.not_false, Option.isNone_some, Option.isNone_none])
    refine ⟨ldI_of (g4.cell (i := 2) rfl rfl) rfl, ldI_of (g4.cell (i := 2) rfl rfl) rfl, ldI_of (g4.cell (i := 2) rfl rfl) rfl, ldI_of (g4.cell (i := 2) rfl rfl) rfl, ?_⟩
    intro bm hbm
    have g5 := g4.alloc (o := .cells #[.int .i64 0, .int .i64 0, .int .i64 0, .int .u64 0, .int .u64 0, .int .i64 0, .int .i64 0, .int .i64 0, .int .i64 0, .int .u64 0, .slice none 0 0, .int .u64 0, .int .i64 0, .int .u64 0, .int .i64 0, .int .u64 0, .int .i64 0, .int .u64 0, .slice none 0 0] ty_api_Msg) hbm
    refine ⟨ldI_of (g5.cell (i := 3) rfl rfl) rfl, ldI_of (g5.cell (i := 3) rfl rfl) rfl, ldI_of (g5.cell (i := 3) rfl rfl) rfl, ldI_of (g5.cell (i := 3) rfl rfl) rfl, ?_⟩
    refine stz_of (b := bm) (vs := [.int .i64 9, .int .i64 q.to, .int .i64 q.frm, .int .u64 q.call, .int .u64 0, .int .i64 0, .int .i64 0, .int .i64 q.item, .int .i64 0, .int .u64 0, .slice none 0 0, .int .u64 0, .int .i64 (pick x.code 8), .int .u64 0, .int .i64 0, .int .u64 0, .int .i64 0, .int .u64 3, .slice none 0 0]) (o := 0) ?_
    refine St.sets (i := 0) g5 rfl (by simp) fun H6 g6 => ?_
    rw [setsA_all (by rfl)] at g6
    exact fin bm (pick x.code 8) H6 g6
  · intro bm hbm
    have g5 := g4.alloc (o := .cells #[.int .i64 0, .int .i64 0, .int .i64 0, .int .u64 0, .int .u64 0, .int .i64 0, .int .i64 0, .int .i64 0, .int .i64 0, .int .u64 0, .slice none 0 0, .int .u64 0, .int .i64 0, .int .u64 0, .int .i64 0, .int .u64 0, .int .i64 0, .int .u64 0, .slice none 0 0] ty_api_Msg) hbm
    refine ⟨ldI_of (g5.cell (i := 2) rfl rfl) rfl, ldI_of (g5.cell (i := 3) rfl rfl) rfl, ldI_of (g5.cell (i := 3) rfl rfl) rfl, ldI_of (g5.cell (i := 3) rfl rfl) rfl, ldI_of (g5.cell (i := 3) rfl rfl) rfl, ?_⟩
    refine Pick_ok (by decide) (by decide) ?_
    (try simp only [asI_mk', asB_mk, asP_mk, asA_mk, asM_mk, asSl_mk, asStr_mk, tup2_mk, tup3_mk, agg1_mk, agg2_mk, agg3_mk, agg4_mk, asAggm, unCons_mk, unNil_mk, asTup_mk, extractD0, extractD1, List.toList_toArray, nilP_mk, add_mk, Nat.zero_add, Nat.add_zero, condT, condF, Bool.not_true, Bool.not_false, Option.isNone_some, Option.isNone_none])
    refine ⟨ldI_of (g5.cell (i := 3) rfl rfl) rfl, ldI_of (g5.cell (i := 3) rfl rfl) rfl, ldI_of (g5.cell (i := 3) rfl rfl) rfl, ldI_of (g5.cell (i := 3) rfl rfl) rfl, ?_⟩
    refine stz_of (b := bm) (vs := [.int .i64 9, .int .i64 q.to, .int .i64 q.frm, .int .u64 q.call, .int .u64 0, .int .i64 0, .int .i64 0, .int .i64 q.item, .int .i64 0, .int .u64 0, .slice none 0 0, .int .u64 0, .int .i64 (pick x.code 8), .int .u64 0, .int .i64 0, .int .u64 0, .int .i64 0, .int .u64 3, .slice none 0 0]) (o := 0) ?_
    refine St.sets (i := 0) g5 rfl (by simp) fun H6 g6 => ?_
    rw [setsA_all (by rfl)] at g6
    exact fin bm (pick x.code 8) H6 g6
end
end Go.Proofs.Ytknejebggegfjaa

namespace Go.Proofs.Ytknejebggegfjaa
open Go
set_option linter.unusedVariables false
set_option maxRecDepth 100000
end Go.Proofs.Ytknejebggegfjaa

namespace Go.Proofs.Ytknejebggegfjaa
open Go
set_option linter.unusedVariables false
set_option maxRecDepth 100000
end Go.Proofs.Ytknejebggegfjaa

namespace Go.Proofs.Ytknejebggegfjaa
set_option linter.unusedSimpArgs false
set_option linter.unusedVariables false
set_option maxRecDepth 20000
open Go
def rawOf (x : E_hand_Raw) : Cf := ⟨x.Nodes, x.Mutators, x.Slots, x.Cells, x.Objects, x.Stubs, x.Calls, x.Window, x.Grey, x.Bag, x.Inbox, x.Unit, x.Drift, x.Lease, x.Wait, x.Most, x.Patience, x.Suspect, x.Trace, x.Work, x.Start, x.Last⟩
def wt (s w : Int) : Tr := ⟨1, 1, 0, 1, [⟨false, 1, ⟨2, 7⟩, 0⟩], [], 0, [], s, w⟩
end Go.Proofs.Ytknejebggegfjaa

namespace Go.Proofs.Ytknejebggegfjaa
open Go
set_option linter.unusedVariables false
set_option maxRecDepth 100000
end Go.Proofs.Ytknejebggegfjaa

namespace Go.Proofs.Ytknejebggegfjaa
open Go
set_option linter.unusedVariables false
set_option maxRecDepth 100000
end Go.Proofs.Ytknejebggegfjaa

namespace Go.Proofs.Ytknejebggegfjaa
set_option linter.unusedSimpArgs false
set_option linter.unusedVariables false
set_option maxRecDepth 20000
open Go
section
variable {H0 H : Hp} {L M N : List Prt} {i k tb : Nat} {nodes : Int} {c : Cf} {t : Tr} {w : Web} {K : Value → Hp → Prop} {ip op lp gp : Option Addr} {il ic ol oc ll lc gl gc : Nat}
theorem itemsC {p p' : Option Addr} {n a n' b : Nat} {l : List It} (h1 : Rd H 5 p n (cel It.cells l)) (h2 : Rd H 5 p' n' (cel It.cells l)) (hn : n = l.length) (hn' : n' = l.length) (hl : l.length ≤ 1000) (h : K (.bool true) H) : hcall PR f_law23_items ⟨[.slice p n a, .slice p' n' b]⟩ H K := by
  apply den_law23_items
  unfold B_law23_items
  subst hn hn'
  refine bif_neqf rfl ⟨fun q H' => H' = H ∧ ∃ m : Nat, q = m ∧ m ≤ l.length, fun q _ => ((l.length : Int) - q).toNat, ⟨rfl, 0, rfl, by omega⟩, ?_⟩
  rintro q H' ⟨rfl, m, rfl, hm⟩
  by_cases hml : (m : Int) < (l.length : Int)
  rotate_left
  · exact bif_neg hml h
  have r1 : ∀ {Q : Addr → Prop}, (∀ b o, (∀ j, j < 5 → hcell H' ⟨b, o + j, none⟩ = (It.cells (l.getD m noIt))[j]?) → Q ⟨b, o, none⟩) → idxA p l.length m 5 Q := fun hQ => idxS It.len noIt h1 (by omega) (by omega) hml fun b o _ _ hc => hQ b _ (by rw [Int.toNat_natCast] at hc ⊢; exact hc)
  have r2 : ∀ {Q : Addr → Prop}, (∀ b o, (∀ j, j < 5 → hcell H' ⟨b, o + j, none⟩ = (It.cells (l.getD m noIt))[j]?) → Q ⟨b, o, none⟩) → idxA p' l.length m 5 Q := fun hQ => idxS It.len noIt h2 (by omega) (by omega) hml fun b o _ _ hc => hQ b _ (by rw [Int.toNat_natCast] at hc ⊢; exact hc)
  refine bif_pos hml (r1 fun b o hc => ldB_of (hc 0 (by omega)) (r2 fun b' o' hc' => ldB_of (hc' 0 (by omega)) ?_))
  rw [show ((l.getD m noIt).inn == (l.getD m noIt).inn) = true by simp]
  simp only [Bool.not_true, condF]
  refine r1 fun b o hc => ldI_of (hc 1 (by omega)) (r2 fun b' o' hc' => ldI_of (hc' 1 (by omega)) (bif_neqf rfl ?_))
  refine r1 fun b o hc => ldI_of (hc 2 (by omega)) (ldI_of (hc 3 (by omega)) (r2 fun b' o' hc' => ldI_of (hc' 2 (by omega)) (ldI_of (hc' 3 (by omega)) (idNe ?_))))
  rw [decide_eq_true rfl]
  (try simp only [asI_mk', asB_mk, asP_mk, asA_mk, asM_mk, asSl_mk, asStr_mk, tup2_mk, tup3_mk, agg1_mk, agg2_mk, agg3_mk, agg4_mk, asAggm, unCons_mk, unNil_mk, asTup_mk, extractD0, extractD1, List.toList_toArray, nilP_mk, add_mk, Nat.zero_add, Nat.add_zero, condT, condF, Bool.not_true, Bool.not_false, Option.isNone_some, Option.isNone_none])
  refine r1 fun b o hc => ldI_of (hc 4 (by omega)) (r2 fun b' o' hc' => ldI_of (hc' 4 (by omega)) (bif_neqf rfl ?_))
  rw [wrap_i64 (by omega) (by omega)]
  exact ⟨⟨by trivial, m + 1, by omega, by omega⟩, by (try dsimp only); omega⟩
theorem Wi.item (h : Wi nodes w i t) (h0 : t.st ≠ 0) : t.q.item = i ∧ t.q.call = 1 := by
  have hs := h.ok.st
  by_cases h1 : t.st = 1
  · rw [h.q1 h1]; exact ⟨rfl, rfl⟩
  by_cases h2 : t.st = 2
  · rw [h.q2 h2]; exact ⟨rfl, rfl⟩
  · rw [h.q3 (by omega)]; exact ⟨rfl, rfl⟩
end
theorem live0 {w : Web} {x : It} : isLive { w with live := [] } x = false := rfl
theorem Wi.found {nodes : Int} {w : Web} {i : Nat} {t : Tr} (hn : 2 ≤ nodes ∧ nodes ≤ 4) (h : Wi nodes { w with live := [] } i t) (h0 : t.st ≠ 0) (hf : t.found = 0) :
    ((t.hear nodes (ansW { w with live := [] } nodes t.q)).st = 0 → (t.hear nodes (ansW { w with live := [] } nodes t.q)).found = 1) ∧ ((t.hear nodes (ansW { w with live := [] } nodes t.q)).st ≠ 0 → (t.hear nodes (ansW { w with live := [] } nodes t.q)).found = 0) := by
  have fin1 : ∀ t : Tr, t.found = 0 → (t.finds.st = 0 → t.finds.found = 1) ∧ (t.finds.st ≠ 0 → t.finds.found = 0) := fun t hf => by
    refine ⟨fun _ => ?_, fun h => absurd rfl h⟩
    show IntKind.i64.wrap (t.found + 1) = 1
    rw [hf]; rfl
  have onw : ∀ t : Tr, t.found = 0 → t.st = 1 → (t.onward.st = 0 → t.onward.found = 1) ∧ (t.onward.st ≠ 0 → t.onward.found = 0) := fun t hf h1 => by
    unfold Tr.onward
    split
    · exact ⟨fun h => absurd h (by show ¬ t.st = 0; omega), fun _ => hf⟩
    · split
      · exact fin1 t.next hf
      · exact ⟨fun h => absurd h (by show ¬ (2 : Int) = 0; decide), fun _ => hf⟩
  have hs := h.ok.st
  by_cases h1 : t.st = 1
  · rw [(h.step1 hn h1).2, live0, if_neg (by decide)]
    split
    · exact onw (t.code 0) hf h1
    · exact onw (t.more1 nodes _ i) hf h1
  by_cases h2 : t.st = 2
  · rw [h.q2 h2, ans2, (h.step2 h2).2, if_neg (fun h => h rfl)]
    split
    · exact ⟨fun h => absurd h (by show ¬ t.st = 0; omega), fun _ => hf⟩
    · split
      · exact fin1 t.next hf
      · exact ⟨fun h => absurd h (by show ¬ (3 : Int) = 0; decide), fun _ => hf⟩
  · have h3 : t.st = 3 := by omega
    rw [(h.step3 h3).2]
    unfold Tr.buried
    split
    · exact fin1 t.next hf
    · exact ⟨fun h => absurd h (by show ¬ t.st = 0; omega), fun _ => hf⟩
end Go.Proofs.Ytknejebggegfjaa

namespace Go.Proofs.Ytknejebggegfjaa
open Go
set_option linter.unusedVariables false
set_option maxRecDepth 100000
def B_law23_TracePlays (rawNodes1 : Int) (rawMutators2 : Int) (rawSlots3 : Int) (rawCells4 : Int) (rawObjects5 : Int) (rawStubs6 : Int) (rawCalls7 : Int) (rawWindow8 : Int) (rawGrey9 : Int) (rawBag10 : Int) (rawInbox11 : Int) (rawUnit12 : Int) (rawDrift13 : Int) (rawLease14 : Int) (rawWait15 : Int) (rawMost16 : Int) (rawPatience17 : Int) (rawSuspect18 : Int) (rawTrace19 : Int) (rawWork20 : Int) (rawStart21 : Int) (rawLast22 : Int) (node23 : Int) (last24 : Int) (lP25 : Option Addr) (lL26 : Nat) (lC27 : Nat) (H : Hp) (K : Value → Hp → Prop) : Prop :=
 newB (.cells #[(.int .i64 rawNodes1), (.int .i64 rawMutators2), (.int .i64 rawSlots3), (.int .i64 rawCells4), (.int .i64 rawObjects5), (.int .i64 rawStubs6), (.int .i64 rawCalls7), (.int .i64 rawWindow8), (.int .i64 rawGrey9), (.int .i64 rawBag10), (.int .i64 rawInbox11), (.int .i64 rawUnit12), (.int .i64 rawDrift13), (.int .i64 rawLease14), (.int .i64 rawWait15), (.int .i64 rawMost16), (.int .i64 rawPatience17), (.int .i64 rawSuspect18), (.int .i64 rawTrace19), (.int .i64 rawWork20), (.int .u64 rawStart21), (.int .u64 rawLast22)] ty_hand_Raw) H fun b28 Hx29 =>
 ldI .i64 ⟨b28, 0, none⟩ Hx29 fun Nodes30 =>
 ldI .i64 ⟨b28, 1, none⟩ Hx29 fun Mutators31 =>
 ldI .i64 ⟨b28, 2, none⟩ Hx29 fun Slots32 =>
 ldI .i64 ⟨b28, 3, none⟩ Hx29 fun Cells33 =>
 ldI .i64 ⟨b28, 4, none⟩ Hx29 fun Objects34 =>
 ldI .i64 ⟨b28, 5, none⟩ Hx29 fun Stubs35 =>
 ldI .i64 ⟨b28, 6, none⟩ Hx29 fun Calls36 =>
 ldI .i64 ⟨b28, 7, none⟩ Hx29 fun Window37 =>
 ldI .i64 ⟨b28, 8, none⟩ Hx29 fun Grey38 =>
 ldI .i64 ⟨b28, 9, none⟩ Hx29 fun Bag39 =>
 ldI .i64 ⟨b28, 10, none⟩ Hx29 fun Inbox40 =>
 ldI .i64 ⟨b28, 11, none⟩ Hx29 fun Unit41 =>
 ldI .i64 ⟨b28, 12, none⟩ Hx29 fun Drift42 =>
 ldI .i64 ⟨b28, 13, none⟩ Hx29 fun Lease43 =>
 ldI .i64 ⟨b28, 14, none⟩ Hx29 fun Wait44 =>
 ldI .i64 ⟨b28, 15, none⟩ Hx29 fun Most45 =>
 ldI .i64 ⟨b28, 16, none⟩ Hx29 fun Patience46 =>
 ldI .i64 ⟨b28, 17, none⟩ Hx29 fun Suspect47 =>
 ldI .i64 ⟨b28, 18, none⟩ Hx29 fun Trace48 =>
 ldI .i64 ⟨b28, 19, none⟩ Hx29 fun Work49 =>
 ldI .u64 ⟨b28, 20, none⟩ Hx29 fun Start50 =>
 ldI .u64 ⟨b28, 21, none⟩ Hx29 fun Last51 =>
 hcall PR f_hand_Config ⟨[(.agg #[(.int .i64 Nodes30), (.int .i64 Mutators31), (.int .i64 Slots32), (.int .i64 Cells33), (.int .i64 Objects34), (.int .i64 Stubs35), (.int .i64 Calls36), (.int .i64 Window37), (.int .i64 Grey38), (.int .i64 Bag39), (.int .i64 Inbox40), (.int .i64 Unit41), (.int .i64 Drift42), (.int .i64 Lease43), (.int .i64 Wait44), (.int .i64 Most45), (.int .i64 Patience46), (.int .i64 Suspect47), (.int .i64 Trace48), (.int .i64 Work49), (.int .u64 Start50), (.int .u64 Last51)])]⟩ Hx29 fun v52 Hx53 =>
 asAgg' v52 fun cs54 =>
 unCons cs54.toList fun v55 r56 =>
 unCons r56 fun v57 r58 =>
 unCons r58 fun v59 r60 =>
 unCons r60 fun v61 r62 =>
 unCons r62 fun v63 r64 =>
 unCons r64 fun v65 r66 =>
 unCons r66 fun v67 r68 =>
 unCons r68 fun v69 r70 =>
 unCons r70 fun v71 r72 =>
 unCons r72 fun v73 r74 =>
 unCons r74 fun v75 r76 =>
 unCons r76 fun v77 r78 =>
 unCons r78 fun v79 r80 =>
 unCons r80 fun v81 r82 =>
 unCons r82 fun v83 r84 =>
 unCons r84 fun v85 r86 =>
 unCons r86 fun v87 r88 =>
 unCons r88 fun v89 r90 =>
 unCons r90 fun v91 r92 =>
 unCons r92 fun v93 r94 =>
 unCons r94 fun v95 r96 =>
 unCons r96 fun v97 r98 =>
 unNil r98 <|
 asI .i64 v55 fun Nodes99 =>
 asI .i64 v57 fun Mutators100 =>
 asI .i64 v59 fun Slots101 =>
 asI .i64 v61 fun Cells102 =>
 asI .i64 v63 fun Objects103 =>
 asI .i64 v65 fun Stubs104 =>
 asI .i64 v67 fun Calls105 =>
 asI .i64 v69 fun Window106 =>
 asI .i64 v71 fun Grey107 =>
 asI .i64 v73 fun Bag108 =>
 asI .i64 v75 fun Inbox109 =>
 asI .u64 v77 fun Unit110 =>
 asI .u64 v79 fun Drift111 =>
 asI .u64 v81 fun Lease112 =>
 asI .u64 v83 fun Wait113 =>
 asI .u64 v85 fun Most114 =>
 asI .u64 v87 fun Patience115 =>
 asI .i64 v89 fun Suspect116 =>
 asI .i64 v91 fun Trace117 =>
 asI .i64 v93 fun Work118 =>
 asI .u64 v95 fun Start119 =>
 asI .u64 v97 fun Last120 =>
 newB (.cells #[(.int .i64 0), (.int .i64 0), (.int .i64 0), (.int .i64 0), (.int .i64 0), (.int .i64 0), (.int .i64 0), (.int .i64 0), (.int .i64 0), (.int .i64 0), (.int .i64 0), (.int .u64 0), (.int .u64 0), (.int .u64 0), (.int .u64 0), (.int .u64 0), (.int .u64 0), (.int .i64 0), (.int .i64 0), (.int .i64 0), (.int .u64 0), (.int .u64 0)] ty_api_Config) Hx53 fun b121 Hx122 =>
 st ⟨b121, 0, none⟩ (.int .i64 Nodes99) Hx122 fun Hx123 =>
 st ⟨b121, 1, none⟩ (.int .i64 Mutators100) Hx123 fun Hx124 =>
 st ⟨b121, 2, none⟩ (.int .i64 Slots101) Hx124 fun Hx125 =>
 st ⟨b121, 3, none⟩ (.int .i64 Cells102) Hx125 fun Hx126 =>
 st ⟨b121, 4, none⟩ (.int .i64 Objects103) Hx126 fun Hx127 =>
 st ⟨b121, 5, none⟩ (.int .i64 Stubs104) Hx127 fun Hx128 =>
 st ⟨b121, 6, none⟩ (.int .i64 Calls105) Hx128 fun Hx129 =>
 st ⟨b121, 7, none⟩ (.int .i64 Window106) Hx129 fun Hx130 =>
 st ⟨b121, 8, none⟩ (.int .i64 Grey107) Hx130 fun Hx131 =>
 st ⟨b121, 9, none⟩ (.int .i64 Bag108) Hx131 fun Hx132 =>
 st ⟨b121, 10, none⟩ (.int .i64 Inbox109) Hx132 fun Hx133 =>
 st ⟨b121, 11, none⟩ (.int .u64 Unit110) Hx133 fun Hx134 =>
 st ⟨b121, 12, none⟩ (.int .u64 Drift111) Hx134 fun Hx135 =>
 st ⟨b121, 13, none⟩ (.int .u64 Lease112) Hx135 fun Hx136 =>
 st ⟨b121, 14, none⟩ (.int .u64 Wait113) Hx136 fun Hx137 =>
 st ⟨b121, 15, none⟩ (.int .u64 Most114) Hx137 fun Hx138 =>
 st ⟨b121, 16, none⟩ (.int .u64 Patience115) Hx138 fun Hx139 =>
 st ⟨b121, 17, none⟩ (.int .i64 Suspect116) Hx139 fun Hx140 =>
 st ⟨b121, 18, none⟩ (.int .i64 Trace117) Hx140 fun Hx141 =>
 st ⟨b121, 19, none⟩ (.int .i64 Work118) Hx141 fun Hx142 =>
 st ⟨b121, 20, none⟩ (.int .u64 Start119) Hx142 fun Hx143 =>
 st ⟨b121, 21, none⟩ (.int .u64 Last120) Hx143 fun Hx144 =>
 ldI .i64 ⟨b121, 0, none⟩ Hx144 fun Nodes145 =>
 ldI .i64 ⟨b121, 1, none⟩ Hx144 fun Mutators146 =>
 ldI .i64 ⟨b121, 2, none⟩ Hx144 fun Slots147 =>
 ldI .i64 ⟨b121, 3, none⟩ Hx144 fun Cells148 =>
 ldI .i64 ⟨b121, 4, none⟩ Hx144 fun Objects149 =>
 ldI .i64 ⟨b121, 5, none⟩ Hx144 fun Stubs150 =>
 ldI .i64 ⟨b121, 6, none⟩ Hx144 fun Calls151 =>
 ldI .i64 ⟨b121, 7, none⟩ Hx144 fun Window152 =>
 ldI .i64 ⟨b121, 8, none⟩ Hx144 fun Grey153 =>
 ldI .i64 ⟨b121, 9, none⟩ Hx144 fun Bag154 =>
 ldI .i64 ⟨b121, 10, none⟩ Hx144 fun Inbox155 =>
 ldI .u64 ⟨b121, 11, none⟩ Hx144 fun Unit156 =>
 ldI .u64 ⟨b121, 12, none⟩ Hx144 fun Drift157 =>
 ldI .u64 ⟨b121, 13, none⟩ Hx144 fun Lease158 =>
 ldI .u64 ⟨b121, 14, none⟩ Hx144 fun Wait159 =>
 ldI .u64 ⟨b121, 15, none⟩ Hx144 fun Most160 =>
 ldI .u64 ⟨b121, 16, none⟩ Hx144 fun Patience161 =>
 ldI .i64 ⟨b121, 17, none⟩ Hx144 fun Suspect162 =>
 ldI .i64 ⟨b121, 18, none⟩ Hx144 fun Trace163 =>
 ldI .i64 ⟨b121, 19, none⟩ Hx144 fun Work164 =>
 ldI .u64 ⟨b121, 20, none⟩ Hx144 fun Start165 =>
 ldI .u64 ⟨b121, 21, none⟩ Hx144 fun Last166 =>
 hcall PR f_trace_New ⟨[(.agg #[(.int .i64 Nodes145), (.int .i64 Mutators146), (.int .i64 Slots147), (.int .i64 Cells148), (.int .i64 Objects149), (.int .i64 Stubs150), (.int .i64 Calls151), (.int .i64 Window152), (.int .i64 Grey153), (.int .i64 Bag154), (.int .i64 Inbox155), (.int .u64 Unit156), (.int .u64 Drift157), (.int .u64 Lease158), (.int .u64 Wait159), (.int .u64 Most160), (.int .u64 Patience161), (.int .i64 Suspect162), (.int .i64 Trace163), (.int .i64 Work164), (.int .u64 Start165), (.int .u64 Last166)]), (.int .i64 node23), (.int .u64 last24)]⟩ Hx144 fun v167 Hx168 =>
 tup2 v167 fun v169 v170 =>
 asP v169 fun t171 =>
 asI .i64 v170 fun t172 =>
 ldI .i64 ⟨b121, 0, none⟩ Hx168 fun Nodes173 =>
 ldI .i64 ⟨b121, 1, none⟩ Hx168 fun Mutators174 =>
 ldI .i64 ⟨b121, 2, none⟩ Hx168 fun Slots175 =>
 ldI .i64 ⟨b121, 3, none⟩ Hx168 fun Cells176 =>
 ldI .i64 ⟨b121, 4, none⟩ Hx168 fun Objects177 =>
 ldI .i64 ⟨b121, 5, none⟩ Hx168 fun Stubs178 =>
 ldI .i64 ⟨b121, 6, none⟩ Hx168 fun Calls179 =>
 ldI .i64 ⟨b121, 7, none⟩ Hx168 fun Window180 =>
 ldI .i64 ⟨b121, 8, none⟩ Hx168 fun Grey181 =>
 ldI .i64 ⟨b121, 9, none⟩ Hx168 fun Bag182 =>
 ldI .i64 ⟨b121, 10, none⟩ Hx168 fun Inbox183 =>
 ldI .u64 ⟨b121, 11, none⟩ Hx168 fun Unit184 =>
 ldI .u64 ⟨b121, 12, none⟩ Hx168 fun Drift185 =>
 ldI .u64 ⟨b121, 13, none⟩ Hx168 fun Lease186 =>
 ldI .u64 ⟨b121, 14, none⟩ Hx168 fun Wait187 =>
 ldI .u64 ⟨b121, 15, none⟩ Hx168 fun Most188 =>
 ldI .u64 ⟨b121, 16, none⟩ Hx168 fun Patience189 =>
 ldI .i64 ⟨b121, 17, none⟩ Hx168 fun Suspect190 =>
 ldI .i64 ⟨b121, 18, none⟩ Hx168 fun Trace191 =>
 ldI .i64 ⟨b121, 19, none⟩ Hx168 fun Work192 =>
 ldI .u64 ⟨b121, 20, none⟩ Hx168 fun Start193 =>
 ldI .u64 ⟨b121, 21, none⟩ Hx168 fun Last194 =>
 hcall PR f_ref22_New ⟨[(.agg #[(.int .i64 Nodes173), (.int .i64 Mutators174), (.int .i64 Slots175), (.int .i64 Cells176), (.int .i64 Objects177), (.int .i64 Stubs178), (.int .i64 Calls179), (.int .i64 Window180), (.int .i64 Grey181), (.int .i64 Bag182), (.int .i64 Inbox183), (.int .u64 Unit184), (.int .u64 Drift185), (.int .u64 Lease186), (.int .u64 Wait187), (.int .u64 Most188), (.int .u64 Patience189), (.int .i64 Suspect190), (.int .i64 Trace191), (.int .i64 Work192), (.int .u64 Start193), (.int .u64 Last194)]), (.int .i64 node23), (.int .u64 last24)]⟩ Hx168 fun v195 Hx196 =>
 asP v195 fun t197 =>
 hcall PR f_law23_known ⟨[]⟩ Hx196 fun v198 Hx199 =>
 asB v198 fun t200 =>
 (bif (!t200) then
 K (.bool false) Hx199
else
 (bif (Option.isNone (α := Addr) t197) then
 (bif ((t172 : Int) == 1) then
 K (.bool (Option.isNone (α := Addr) t171)) Hx199
else
 K (.bool false) Hx199)
else
 (bif ((t172 : Int) != 0) then
 K (.bool false) Hx199
else
 (bif (Option.isNone (α := Addr) t171) then
 K (.bool false) Hx199
else
 newB (.cells #[(.int .i64 0), (.int .i64 0), (.int .i64 0), (.int .u64 0), (.int .u64 0), (.int .i64 0), (.int .i64 0), (.int .i64 0), (.int .i64 0), (.int .u64 0), (.slice none 0 0), (.int .u64 0), (.int .i64 0), (.int .u64 0), (.int .i64 0), (.int .u64 0), (.int .i64 0), (.int .u64 0), (.slice none 0 0)] ty_api_Msg) Hx199 fun b201 Hx202 =>
 st ⟨b201, 0, none⟩ (.int .i64 0) Hx202 fun Hx203 =>
 st ⟨b201, 1, none⟩ (.int .i64 0) Hx203 fun Hx204 =>
 st ⟨b201, 2, none⟩ (.int .i64 0) Hx204 fun Hx205 =>
 st ⟨b201, 3, none⟩ (.int .u64 0) Hx205 fun Hx206 =>
 st ⟨b201, 4, none⟩ (.int .u64 0) Hx206 fun Hx207 =>
 st ⟨b201, 5, none⟩ (.int .i64 0) Hx207 fun Hx208 =>
 st ⟨b201, 6, none⟩ (.int .i64 0) Hx208 fun Hx209 =>
 st ⟨b201, 7, none⟩ (.int .i64 0) Hx209 fun Hx210 =>
 st ⟨b201, 8, none⟩ (.int .i64 0) Hx210 fun Hx211 =>
 st ⟨b201, 9, none⟩ (.int .u64 0) Hx211 fun Hx212 =>
 st ⟨b201, 10, none⟩ (.slice none 0 0) Hx212 fun Hx213 =>
 st ⟨b201, 11, none⟩ (.int .u64 0) Hx213 fun Hx214 =>
 st ⟨b201, 12, none⟩ (.int .i64 0) Hx214 fun Hx215 =>
 st ⟨b201, 13, none⟩ (.int .u64 0) Hx215 fun Hx216 =>
 st ⟨b201, 14, none⟩ (.int .i64 0) Hx216 fun Hx217 =>
 st ⟨b201, 15, none⟩ (.int .u64 0) Hx217 fun Hx218 =>
 st ⟨b201, 16, none⟩ (.int .i64 0) Hx218 fun Hx219 =>
 st ⟨b201, 17, none⟩ (.int .u64 0) Hx219 fun Hx220 =>
 st ⟨b201, 18, none⟩ (.slice none 0 0) Hx220 fun Hx221 =>
 ∃ (I222 : Int → Int → Hp → Prop) (m223 : Int → Int → Hp → Nat), I222 0 0 Hx221 ∧ ∀ now225 : Int, ∀ i226 : Int, ∀ Hx224 : Hp, I222 now225 i226 Hx224 →
 (bif (decide ((i226 : Int) < (lL26 : Int))) then
 (bif (decide ((i226 : Int) < 200)) then
 idxA lP25 lL26 i226 26 fun el227 =>
 ldI .i64 el227 Hx224 fun What228 =>
 ldI .i64 (el227.add 1) Hx224 fun Code229 =>
 ldI .i64 (el227.add 2) Hx224 fun Off230 =>
 ldI .u64 (el227.add 3) Hx224 fun Stamp231 =>
 ldI .u64 (el227.add 4) Hx224 fun N232 =>
 ldSl (el227.add 5) Hx224 fun ListP233 ListL234 ListC235 =>
 ldB (el227.add 6) Hx224 fun Near236 =>
 ldI .i64 (el227.add 7) Hx224 fun Kind237 =>
 ldI .i64 (el227.add 8) Hx224 fun From238 =>
 ldI .i64 (el227.add 9) Hx224 fun To239 =>
 ldI .u64 (el227.add 10) Hx224 fun Call240 =>
 ldI .u64 (el227.add 11) Hx224 fun Floor241 =>
 ldI .i64 (el227.add 12) Hx224 fun Op242 =>
 ldI .i64 (el227.add 13) Hx224 fun Field243 =>
 ldI .i64 (el227.add 14) Hx224 fun Item244 =>
 ldI .i64 (el227.add 15) Hx224 fun Node245 =>
 ldI .u64 (el227.add 16) Hx224 fun Serial246 =>
 ldSl (el227.add 17) Hx224 fun RefsP247 RefsL248 RefsC249 =>
 ldI .u64 (el227.add 18) Hx224 fun Value250 =>
 ldI .i64 (el227.add 19) Hx224 fun Code251 =>
 ldI .u64 (el227.add 20) Hx224 fun Seq252 =>
 ldI .i64 (el227.add 21) Hx224 fun Voucher253 =>
 ldI .u64 (el227.add 22) Hx224 fun At254 =>
 ldI .i64 (el227.add 23) Hx224 fun Dist255 =>
 ldI .u64 (el227.add 24) Hx224 fun Stamp256 =>
 ldSl (el227.add 25) Hx224 fun ListP257 ListL258 ListC259 =>
 newB (.cells #[(.int .i64 0), (.int .i64 0), (.int .i64 0), (.int .u64 0), (.int .u64 0), (.slice none 0 0), (.bool false), (.int .i64 0), (.int .i64 0), (.int .i64 0), (.int .u64 0), (.int .u64 0), (.int .i64 0), (.int .i64 0), (.int .i64 0), (.int .i64 0), (.int .u64 0), (.slice none 0 0), (.int .u64 0), (.int .i64 0), (.int .u64 0), (.int .i64 0), (.int .u64 0), (.int .i64 0), (.int .u64 0), (.slice none 0 0)] ty_law23_Step) Hx224 fun b260 Hx261 =>
 st ⟨b260, 0, none⟩ (.int .i64 What228) Hx261 fun Hx262 =>
 st ⟨b260, 1, none⟩ (.int .i64 Code229) Hx262 fun Hx263 =>
 st ⟨b260, 2, none⟩ (.int .i64 Off230) Hx263 fun Hx264 =>
 st ⟨b260, 3, none⟩ (.int .u64 Stamp231) Hx264 fun Hx265 =>
 st ⟨b260, 4, none⟩ (.int .u64 N232) Hx265 fun Hx266 =>
 st ⟨b260, 5, none⟩ (.slice ListP233 ListL234 ListC235) Hx266 fun Hx267 =>
 st ⟨b260, 6, none⟩ (.bool Near236) Hx267 fun Hx268 =>
 st ⟨b260, 7, none⟩ (.int .i64 Kind237) Hx268 fun Hx269 =>
 st ⟨b260, 8, none⟩ (.int .i64 From238) Hx269 fun Hx270 =>
 st ⟨b260, 9, none⟩ (.int .i64 To239) Hx270 fun Hx271 =>
 st ⟨b260, 10, none⟩ (.int .u64 Call240) Hx271 fun Hx272 =>
 st ⟨b260, 11, none⟩ (.int .u64 Floor241) Hx272 fun Hx273 =>
 st ⟨b260, 12, none⟩ (.int .i64 Op242) Hx273 fun Hx274 =>
 st ⟨b260, 13, none⟩ (.int .i64 Field243) Hx274 fun Hx275 =>
 st ⟨b260, 14, none⟩ (.int .i64 Item244) Hx275 fun Hx276 =>
 st ⟨b260, 15, none⟩ (.int .i64 Node245) Hx276 fun Hx277 =>
 st ⟨b260, 16, none⟩ (.int .u64 Serial246) Hx277 fun Hx278 =>
 st ⟨b260, 17, none⟩ (.slice RefsP247 RefsL248 RefsC249) Hx278 fun Hx279 =>
 st ⟨b260, 18, none⟩ (.int .u64 Value250) Hx279 fun Hx280 =>
 st ⟨b260, 19, none⟩ (.int .i64 Code251) Hx280 fun Hx281 =>
 st ⟨b260, 20, none⟩ (.int .u64 Seq252) Hx281 fun Hx282 =>
 st ⟨b260, 21, none⟩ (.int .i64 Voucher253) Hx282 fun Hx283 =>
 st ⟨b260, 22, none⟩ (.int .u64 At254) Hx283 fun Hx284 =>
 st ⟨b260, 23, none⟩ (.int .i64 Dist255) Hx284 fun Hx285 =>
 st ⟨b260, 24, none⟩ (.int .u64 Stamp256) Hx285 fun Hx286 =>
 st ⟨b260, 25, none⟩ (.slice ListP257 ListL258 ListC259) Hx286 fun Hx287 =>
 ldI .u64 ⟨b260, 4, none⟩ Hx287 fun N288 =>
 ldI .u64 ⟨b121, 15, none⟩ Hx287 fun Most289 =>
 ((IntKind.u64.wrap (2 * Most289)) : Int) ≠ 0 ∧
 ∀ R290 : Bool → Hp → Prop, (∀ ok292 : Bool, ∀ Hx291 : Hp, (
 hcall PR f_trace_Trace_Count ⟨[(.pointer t171)]⟩ Hx291 fun v293 Hx294 =>
 tup2 v293 fun v295 v296 =>
 asI .u64 v295 fun t297 =>
 asI .i64 v296 fun t298 =>
 (bif (!ok292) then
 K (.bool false) Hx294
else
 nilP t197 fun ta299 =>
 ldI .i64 (ta299.add 23) Hx294 fun State300 =>
 hcall PR f_trace_Trace_State ⟨[(.pointer t171)]⟩ Hx294 fun v301 Hx302 =>
 asI .i64 v301 fun t303 =>
 (ldI .i64 (ta299.add 23) Hx302 fun State304 =>
 ((.int .i64 State304) : Value) = (.int .i64 State300)) ∧
 (bif ((t303 : Int) != State300) then
 K (.bool false) Hx302
else
 nilP t197 fun ta305 =>
 ldI .u64 (ta305.add 24) Hx302 fun Num306 =>
 (bif ((t297 : Int) != Num306) then
 K (.bool false) Hx302
else
 nilP t197 fun ta307 =>
 ldI .i64 (ta307.add 25) Hx302 fun Found308 =>
 (bif ((t298 : Int) != Found308) then
 K (.bool false) Hx302
else
 nilP t197 fun ta309 =>
 ldSl (ta309.add 26) Hx302 fun ItemsP310 ItemsL311 ItemsC312 =>
 hcall PR f_trace_Trace_Items ⟨[(.pointer t171)]⟩ Hx302 fun v313 Hx314 =>
 asSl v313 fun tP315 tL316 tC317 =>
 (ldSl (ta309.add 26) Hx314 fun ItemsP318 ItemsL319 ItemsC320 =>
 ((.slice ItemsP318 ItemsL319 ItemsC320) : Value) = (.slice ItemsP310 ItemsL311 ItemsC312)) ∧
 hcall PR f_law23_items ⟨[(.slice tP315 tL316 tC317), (.slice ItemsP310 ItemsL311 ItemsC312)]⟩ Hx314 fun v321 Hx322 =>
 asB v321 fun t323 =>
 (bif (!t323) then
 K (.bool false) Hx322
else
 I222 (IntKind.u64.wrap (now225 + (Int.tmod N288 (IntKind.u64.wrap (2 * Most289))))) (IntKind.i64.wrap (i226 + 1)) Hx322 ∧ m223 (IntKind.u64.wrap (now225 + (Int.tmod N288 (IntKind.u64.wrap (2 * Most289))))) (IntKind.i64.wrap (i226 + 1)) Hx322 < m223 now225 i226 Hx224)))))) → R290 ok292 Hx291) →
 ldI .i64 ⟨b260, 0, none⟩ Hx287 fun What324 =>
 hcall PR f_hand_Pick ⟨[(.int .i64 What324), (.int .i64 9)]⟩ Hx287 fun v325 Hx326 =>
 asI .i64 v325 fun t327 =>
 (bif (decide ((t327 : Int) < 2)) then
 hcall PR f_trace_Trace_Step ⟨[(.pointer t171), (.int .u64 (IntKind.u64.wrap (now225 + (Int.tmod N288 (IntKind.u64.wrap (2 * Most289))))))]⟩ Hx326 fun v328 Hx329 =>
 tup2 v328 fun v330 v331 =>
 asAgg' v330 fun cs332 =>
 unCons cs332.toList fun v333 r334 =>
 unCons r334 fun v335 r336 =>
 unCons r336 fun v337 r338 =>
 unCons r338 fun v339 r340 =>
 unCons r340 fun v341 r342 =>
 unCons r342 fun v343 r344 =>
 unCons r344 fun v345 r346 =>
 unCons r346 fun v347 r348 =>
 unCons r348 fun v349 r350 =>
 unCons r350 fun v351 r352 =>
 unCons r352 fun v353 r354 =>
 unCons r354 fun v355 r356 =>
 unCons r356 fun v357 r358 =>
 unCons r358 fun v359 r360 =>
 unCons r360 fun v361 r362 =>
 unCons r362 fun v363 r364 =>
 unCons r364 fun v365 r366 =>
 unCons r366 fun v367 r368 =>
 unCons r368 fun v369 r370 =>
 unNil r370 <|
 asI .i64 v333 fun Kind371 =>
 asI .i64 v335 fun From372 =>
 asI .i64 v337 fun To373 =>
 asI .u64 v339 fun Call374 =>
 asI .u64 v341 fun Floor375 =>
 asI .i64 v343 fun Op376 =>
 asI .i64 v345 fun Field377 =>
 asI .i64 v347 fun Item378 =>
 asI .i64 v349 fun Node379 =>
 asI .u64 v351 fun Serial380 =>
 asSl v353 fun RefsP381 RefsL382 RefsC383 =>
 asI .u64 v355 fun Value384 =>
 asI .i64 v357 fun Code385 =>
 asI .u64 v359 fun Seq386 =>
 asI .i64 v361 fun Voucher387 =>
 asI .u64 v363 fun At388 =>
 asI .i64 v365 fun Dist389 =>
 asI .u64 v367 fun Stamp390 =>
 asSl v369 fun ListP391 ListL392 ListC393 =>
 asB v331 fun t394 =>
 newB (.cells #[(.int .i64 0), (.int .i64 0), (.int .i64 0), (.int .u64 0), (.int .u64 0), (.int .i64 0), (.int .i64 0), (.int .i64 0), (.int .i64 0), (.int .u64 0), (.slice none 0 0), (.int .u64 0), (.int .i64 0), (.int .u64 0), (.int .i64 0), (.int .u64 0), (.int .i64 0), (.int .u64 0), (.slice none 0 0)] ty_api_Msg) Hx329 fun b395 Hx396 =>
 st ⟨b395, 0, none⟩ (.int .i64 Kind371) Hx396 fun Hx397 =>
 st ⟨b395, 1, none⟩ (.int .i64 From372) Hx397 fun Hx398 =>
 st ⟨b395, 2, none⟩ (.int .i64 To373) Hx398 fun Hx399 =>
 st ⟨b395, 3, none⟩ (.int .u64 Call374) Hx399 fun Hx400 =>
 st ⟨b395, 4, none⟩ (.int .u64 Floor375) Hx400 fun Hx401 =>
 st ⟨b395, 5, none⟩ (.int .i64 Op376) Hx401 fun Hx402 =>
 st ⟨b395, 6, none⟩ (.int .i64 Field377) Hx402 fun Hx403 =>
 st ⟨b395, 7, none⟩ (.int .i64 Item378) Hx403 fun Hx404 =>
 st ⟨b395, 8, none⟩ (.int .i64 Node379) Hx404 fun Hx405 =>
 st ⟨b395, 9, none⟩ (.int .u64 Serial380) Hx405 fun Hx406 =>
 st ⟨b395, 10, none⟩ (.slice RefsP381 RefsL382 RefsC383) Hx406 fun Hx407 =>
 st ⟨b395, 11, none⟩ (.int .u64 Value384) Hx407 fun Hx408 =>
 st ⟨b395, 12, none⟩ (.int .i64 Code385) Hx408 fun Hx409 =>
 st ⟨b395, 13, none⟩ (.int .u64 Seq386) Hx409 fun Hx410 =>
 st ⟨b395, 14, none⟩ (.int .i64 Voucher387) Hx410 fun Hx411 =>
 st ⟨b395, 15, none⟩ (.int .u64 At388) Hx411 fun Hx412 =>
 st ⟨b395, 16, none⟩ (.int .i64 Dist389) Hx412 fun Hx413 =>
 st ⟨b395, 17, none⟩ (.int .u64 Stamp390) Hx413 fun Hx414 =>
 st ⟨b395, 18, none⟩ (.slice ListP391 ListL392 ListC393) Hx414 fun Hx415 =>
 hcall PR f_ref22_Trace_Step ⟨[(.pointer t197), (.int .u64 (IntKind.u64.wrap (now225 + (Int.tmod N288 (IntKind.u64.wrap (2 * Most289))))))]⟩ Hx415 fun v416 Hx417 =>
 tup2 v416 fun v418 v419 =>
 asAgg' v418 fun cs420 =>
 unCons cs420.toList fun v421 r422 =>
 unCons r422 fun v423 r424 =>
 unCons r424 fun v425 r426 =>
 unCons r426 fun v427 r428 =>
 unCons r428 fun v429 r430 =>
 unCons r430 fun v431 r432 =>
 unCons r432 fun v433 r434 =>
 unCons r434 fun v435 r436 =>
 unCons r436 fun v437 r438 =>
 unCons r438 fun v439 r440 =>
 unCons r440 fun v441 r442 =>
 unCons r442 fun v443 r444 =>
 unCons r444 fun v445 r446 =>
 unCons r446 fun v447 r448 =>
 unCons r448 fun v449 r450 =>
 unCons r450 fun v451 r452 =>
 unCons r452 fun v453 r454 =>
 unCons r454 fun v455 r456 =>
 unCons r456 fun v457 r458 =>
 unNil r458 <|
 asI .i64 v421 fun Kind459 =>
 asI .i64 v423 fun From460 =>
 asI .i64 v425 fun To461 =>
 asI .u64 v427 fun Call462 =>
 asI .u64 v429 fun Floor463 =>
 asI .i64 v431 fun Op464 =>
 asI .i64 v433 fun Field465 =>
 asI .i64 v435 fun Item466 =>
 asI .i64 v437 fun Node467 =>
 asI .u64 v439 fun Serial468 =>
 asSl v441 fun RefsP469 RefsL470 RefsC471 =>
 asI .u64 v443 fun Value472 =>
 asI .i64 v445 fun Code473 =>
 asI .u64 v447 fun Seq474 =>
 asI .i64 v449 fun Voucher475 =>
 asI .u64 v451 fun At476 =>
 asI .i64 v453 fun Dist477 =>
 asI .u64 v455 fun Stamp478 =>
 asSl v457 fun ListP479 ListL480 ListC481 =>
 asB v419 fun t482 =>
 newB (.cells #[(.int .i64 0), (.int .i64 0), (.int .i64 0), (.int .u64 0), (.int .u64 0), (.int .i64 0), (.int .i64 0), (.int .i64 0), (.int .i64 0), (.int .u64 0), (.slice none 0 0), (.int .u64 0), (.int .i64 0), (.int .u64 0), (.int .i64 0), (.int .u64 0), (.int .i64 0), (.int .u64 0), (.slice none 0 0)] ty_api_Msg) Hx417 fun b483 Hx484 =>
 st ⟨b483, 0, none⟩ (.int .i64 Kind459) Hx484 fun Hx485 =>
 st ⟨b483, 1, none⟩ (.int .i64 From460) Hx485 fun Hx486 =>
 st ⟨b483, 2, none⟩ (.int .i64 To461) Hx486 fun Hx487 =>
 st ⟨b483, 3, none⟩ (.int .u64 Call462) Hx487 fun Hx488 =>
 st ⟨b483, 4, none⟩ (.int .u64 Floor463) Hx488 fun Hx489 =>
 st ⟨b483, 5, none⟩ (.int .i64 Op464) Hx489 fun Hx490 =>
 st ⟨b483, 6, none⟩ (.int .i64 Field465) Hx490 fun Hx491 =>
 st ⟨b483, 7, none⟩ (.int .i64 Item466) Hx491 fun Hx492 =>
 st ⟨b483, 8, none⟩ (.int .i64 Node467) Hx492 fun Hx493 =>
 st ⟨b483, 9, none⟩ (.int .u64 Serial468) Hx493 fun Hx494 =>
 st ⟨b483, 10, none⟩ (.slice RefsP469 RefsL470 RefsC471) Hx494 fun Hx495 =>
 st ⟨b483, 11, none⟩ (.int .u64 Value472) Hx495 fun Hx496 =>
 st ⟨b483, 12, none⟩ (.int .i64 Code473) Hx496 fun Hx497 =>
 st ⟨b483, 13, none⟩ (.int .u64 Seq474) Hx497 fun Hx498 =>
 st ⟨b483, 14, none⟩ (.int .i64 Voucher475) Hx498 fun Hx499 =>
 st ⟨b483, 15, none⟩ (.int .u64 At476) Hx499 fun Hx500 =>
 st ⟨b483, 16, none⟩ (.int .i64 Dist477) Hx500 fun Hx501 =>
 st ⟨b483, 17, none⟩ (.int .u64 Stamp478) Hx501 fun Hx502 =>
 st ⟨b483, 18, none⟩ (.slice ListP479 ListL480 ListC481) Hx502 fun Hx503 =>
 ∀ R504 : Bool → Hp → Prop, (∀ ok506 : Bool, ∀ Hx505 : Hp, (
 (bif t482 then
 ldI .i64 ⟨b483, 0, none⟩ Hx505 fun Kind507 =>
 ldI .i64 ⟨b483, 1, none⟩ Hx505 fun From508 =>
 ldI .i64 ⟨b483, 2, none⟩ Hx505 fun To509 =>
 ldI .u64 ⟨b483, 3, none⟩ Hx505 fun Call510 =>
 ldI .u64 ⟨b483, 4, none⟩ Hx505 fun Floor511 =>
 ldI .i64 ⟨b483, 5, none⟩ Hx505 fun Op512 =>
 ldI .i64 ⟨b483, 6, none⟩ Hx505 fun Field513 =>
 ldI .i64 ⟨b483, 7, none⟩ Hx505 fun Item514 =>
 ldI .i64 ⟨b483, 8, none⟩ Hx505 fun Node515 =>
 ldI .u64 ⟨b483, 9, none⟩ Hx505 fun Serial516 =>
 ldSl ⟨b483, 10, none⟩ Hx505 fun RefsP517 RefsL518 RefsC519 =>
 ldI .u64 ⟨b483, 11, none⟩ Hx505 fun Value520 =>
 ldI .i64 ⟨b483, 12, none⟩ Hx505 fun Code521 =>
 ldI .u64 ⟨b483, 13, none⟩ Hx505 fun Seq522 =>
 ldI .i64 ⟨b483, 14, none⟩ Hx505 fun Voucher523 =>
 ldI .u64 ⟨b483, 15, none⟩ Hx505 fun At524 =>
 ldI .i64 ⟨b483, 16, none⟩ Hx505 fun Dist525 =>
 ldI .u64 ⟨b483, 17, none⟩ Hx505 fun Stamp526 =>
 ldSl ⟨b483, 18, none⟩ Hx505 fun ListP527 ListL528 ListC529 =>
 st ⟨b201, 0, none⟩ (.int .i64 Kind507) Hx505 fun Hx530 =>
 st ⟨b201, 1, none⟩ (.int .i64 From508) Hx530 fun Hx531 =>
 st ⟨b201, 2, none⟩ (.int .i64 To509) Hx531 fun Hx532 =>
 st ⟨b201, 3, none⟩ (.int .u64 Call510) Hx532 fun Hx533 =>
 st ⟨b201, 4, none⟩ (.int .u64 Floor511) Hx533 fun Hx534 =>
 st ⟨b201, 5, none⟩ (.int .i64 Op512) Hx534 fun Hx535 =>
 st ⟨b201, 6, none⟩ (.int .i64 Field513) Hx535 fun Hx536 =>
 st ⟨b201, 7, none⟩ (.int .i64 Item514) Hx536 fun Hx537 =>
 st ⟨b201, 8, none⟩ (.int .i64 Node515) Hx537 fun Hx538 =>
 st ⟨b201, 9, none⟩ (.int .u64 Serial516) Hx538 fun Hx539 =>
 st ⟨b201, 10, none⟩ (.slice RefsP517 RefsL518 RefsC519) Hx539 fun Hx540 =>
 st ⟨b201, 11, none⟩ (.int .u64 Value520) Hx540 fun Hx541 =>
 st ⟨b201, 12, none⟩ (.int .i64 Code521) Hx541 fun Hx542 =>
 st ⟨b201, 13, none⟩ (.int .u64 Seq522) Hx542 fun Hx543 =>
 st ⟨b201, 14, none⟩ (.int .i64 Voucher523) Hx543 fun Hx544 =>
 st ⟨b201, 15, none⟩ (.int .u64 At524) Hx544 fun Hx545 =>
 st ⟨b201, 16, none⟩ (.int .i64 Dist525) Hx545 fun Hx546 =>
 st ⟨b201, 17, none⟩ (.int .u64 Stamp526) Hx546 fun Hx547 =>
 st ⟨b201, 18, none⟩ (.slice ListP527 ListL528 ListC529) Hx547 fun Hx548 =>
 R290 ok506 Hx548
else
 R290 ok506 Hx505)) → R504 ok506 Hx505) →
 (bif (t394 == t482) then
 ldI .i64 ⟨b395, 0, none⟩ Hx503 fun Kind549 =>
 ldI .i64 ⟨b395, 1, none⟩ Hx503 fun From550 =>
 ldI .i64 ⟨b395, 2, none⟩ Hx503 fun To551 =>
 ldI .u64 ⟨b395, 3, none⟩ Hx503 fun Call552 =>
 ldI .u64 ⟨b395, 4, none⟩ Hx503 fun Floor553 =>
 ldI .i64 ⟨b395, 5, none⟩ Hx503 fun Op554 =>
 ldI .i64 ⟨b395, 6, none⟩ Hx503 fun Field555 =>
 ldI .i64 ⟨b395, 7, none⟩ Hx503 fun Item556 =>
 ldI .i64 ⟨b395, 8, none⟩ Hx503 fun Node557 =>
 ldI .u64 ⟨b395, 9, none⟩ Hx503 fun Serial558 =>
 ldSl ⟨b395, 10, none⟩ Hx503 fun RefsP559 RefsL560 RefsC561 =>
 ldI .u64 ⟨b395, 11, none⟩ Hx503 fun Value562 =>
 ldI .i64 ⟨b395, 12, none⟩ Hx503 fun Code563 =>
 ldI .u64 ⟨b395, 13, none⟩ Hx503 fun Seq564 =>
 ldI .i64 ⟨b395, 14, none⟩ Hx503 fun Voucher565 =>
 ldI .u64 ⟨b395, 15, none⟩ Hx503 fun At566 =>
 ldI .i64 ⟨b395, 16, none⟩ Hx503 fun Dist567 =>
 ldI .u64 ⟨b395, 17, none⟩ Hx503 fun Stamp568 =>
 ldSl ⟨b395, 18, none⟩ Hx503 fun ListP569 ListL570 ListC571 =>
 ldI .i64 ⟨b483, 0, none⟩ Hx503 fun Kind572 =>
 ldI .i64 ⟨b483, 1, none⟩ Hx503 fun From573 =>
 ldI .i64 ⟨b483, 2, none⟩ Hx503 fun To574 =>
 ldI .u64 ⟨b483, 3, none⟩ Hx503 fun Call575 =>
 ldI .u64 ⟨b483, 4, none⟩ Hx503 fun Floor576 =>
 ldI .i64 ⟨b483, 5, none⟩ Hx503 fun Op577 =>
 ldI .i64 ⟨b483, 6, none⟩ Hx503 fun Field578 =>
 ldI .i64 ⟨b483, 7, none⟩ Hx503 fun Item579 =>
 ldI .i64 ⟨b483, 8, none⟩ Hx503 fun Node580 =>
 ldI .u64 ⟨b483, 9, none⟩ Hx503 fun Serial581 =>
 ldSl ⟨b483, 10, none⟩ Hx503 fun RefsP582 RefsL583 RefsC584 =>
 ldI .u64 ⟨b483, 11, none⟩ Hx503 fun Value585 =>
 ldI .i64 ⟨b483, 12, none⟩ Hx503 fun Code586 =>
 ldI .u64 ⟨b483, 13, none⟩ Hx503 fun Seq587 =>
 ldI .i64 ⟨b483, 14, none⟩ Hx503 fun Voucher588 =>
 ldI .u64 ⟨b483, 15, none⟩ Hx503 fun At589 =>
 ldI .i64 ⟨b483, 16, none⟩ Hx503 fun Dist590 =>
 ldI .u64 ⟨b483, 17, none⟩ Hx503 fun Stamp591 =>
 ldSl ⟨b483, 18, none⟩ Hx503 fun ListP592 ListL593 ListC594 =>
 hcall PR f_ref2_Same ⟨[(.agg #[(.int .i64 Kind549), (.int .i64 From550), (.int .i64 To551), (.int .u64 Call552), (.int .u64 Floor553), (.int .i64 Op554), (.int .i64 Field555), (.int .i64 Item556), (.int .i64 Node557), (.int .u64 Serial558), (.slice RefsP559 RefsL560 RefsC561), (.int .u64 Value562), (.int .i64 Code563), (.int .u64 Seq564), (.int .i64 Voucher565), (.int .u64 At566), (.int .i64 Dist567), (.int .u64 Stamp568), (.slice ListP569 ListL570 ListC571)]), (.agg #[(.int .i64 Kind572), (.int .i64 From573), (.int .i64 To574), (.int .u64 Call575), (.int .u64 Floor576), (.int .i64 Op577), (.int .i64 Field578), (.int .i64 Item579), (.int .i64 Node580), (.int .u64 Serial581), (.slice RefsP582 RefsL583 RefsC584), (.int .u64 Value585), (.int .i64 Code586), (.int .u64 Seq587), (.int .i64 Voucher588), (.int .u64 At589), (.int .i64 Dist590), (.int .u64 Stamp591), (.slice ListP592 ListL593 ListC594)])]⟩ Hx503 fun v595 Hx596 =>
 asB v595 fun t597 =>
 R504 t597 Hx596
else
 R504 false Hx503)
else
 (bif (decide ((t327 : Int) < 8)) then
 ldI .i64 ⟨b260, 7, none⟩ Hx326 fun Kind598 =>
 ldI .i64 ⟨b260, 8, none⟩ Hx326 fun From599 =>
 ldI .i64 ⟨b260, 9, none⟩ Hx326 fun To600 =>
 ldI .u64 ⟨b260, 10, none⟩ Hx326 fun Call601 =>
 ldI .u64 ⟨b260, 11, none⟩ Hx326 fun Floor602 =>
 ldI .i64 ⟨b260, 12, none⟩ Hx326 fun Op603 =>
 ldI .i64 ⟨b260, 13, none⟩ Hx326 fun Field604 =>
 ldI .i64 ⟨b260, 14, none⟩ Hx326 fun Item605 =>
 ldI .i64 ⟨b260, 15, none⟩ Hx326 fun Node606 =>
 ldI .u64 ⟨b260, 16, none⟩ Hx326 fun Serial607 =>
 ldSl ⟨b260, 17, none⟩ Hx326 fun RefsP608 RefsL609 RefsC610 =>
 ldI .u64 ⟨b260, 18, none⟩ Hx326 fun Value611 =>
 ldI .i64 ⟨b260, 19, none⟩ Hx326 fun Code612 =>
 ldI .u64 ⟨b260, 20, none⟩ Hx326 fun Seq613 =>
 ldI .i64 ⟨b260, 21, none⟩ Hx326 fun Voucher614 =>
 ldI .u64 ⟨b260, 22, none⟩ Hx326 fun At615 =>
 ldI .i64 ⟨b260, 23, none⟩ Hx326 fun Dist616 =>
 ldI .u64 ⟨b260, 24, none⟩ Hx326 fun Stamp617 =>
 ldSl ⟨b260, 25, none⟩ Hx326 fun ListP618 ListL619 ListC620 =>
 newB (.cells #[(.int .i64 0), (.int .i64 0), (.int .i64 0), (.int .u64 0), (.int .u64 0), (.int .i64 0), (.int .i64 0), (.int .i64 0), (.int .i64 0), (.int .u64 0), (.slice none 0 0), (.int .u64 0), (.int .i64 0), (.int .u64 0), (.int .i64 0), (.int .u64 0), (.int .i64 0), (.int .u64 0), (.slice none 0 0)] ty_api_Msg) Hx326 fun b621 Hx622 =>
 st ⟨b621, 0, none⟩ (.int .i64 Kind598) Hx622 fun Hx623 =>
 st ⟨b621, 1, none⟩ (.int .i64 From599) Hx623 fun Hx624 =>
 st ⟨b621, 2, none⟩ (.int .i64 To600) Hx624 fun Hx625 =>
 st ⟨b621, 3, none⟩ (.int .u64 Call601) Hx625 fun Hx626 =>
 st ⟨b621, 4, none⟩ (.int .u64 Floor602) Hx626 fun Hx627 =>
 st ⟨b621, 5, none⟩ (.int .i64 Op603) Hx627 fun Hx628 =>
 st ⟨b621, 6, none⟩ (.int .i64 Field604) Hx628 fun Hx629 =>
 st ⟨b621, 7, none⟩ (.int .i64 Item605) Hx629 fun Hx630 =>
 st ⟨b621, 8, none⟩ (.int .i64 Node606) Hx630 fun Hx631 =>
 st ⟨b621, 9, none⟩ (.int .u64 Serial607) Hx631 fun Hx632 =>
 st ⟨b621, 10, none⟩ (.slice RefsP608 RefsL609 RefsC610) Hx632 fun Hx633 =>
 st ⟨b621, 11, none⟩ (.int .u64 Value611) Hx633 fun Hx634 =>
 st ⟨b621, 12, none⟩ (.int .i64 Code612) Hx634 fun Hx635 =>
 st ⟨b621, 13, none⟩ (.int .u64 Seq613) Hx635 fun Hx636 =>
 st ⟨b621, 14, none⟩ (.int .i64 Voucher614) Hx636 fun Hx637 =>
 st ⟨b621, 15, none⟩ (.int .u64 At615) Hx637 fun Hx638 =>
 st ⟨b621, 16, none⟩ (.int .i64 Dist616) Hx638 fun Hx639 =>
 st ⟨b621, 17, none⟩ (.int .u64 Stamp617) Hx639 fun Hx640 =>
 st ⟨b621, 18, none⟩ (.slice ListP618 ListL619 ListC620) Hx640 fun Hx641 =>
 ∀ R642 : Hp → Prop, (∀ Hx643 : Hp, (
 ldI .i64 ⟨b621, 0, none⟩ Hx643 fun Kind644 =>
 ldI .i64 ⟨b621, 1, none⟩ Hx643 fun From645 =>
 ldI .i64 ⟨b621, 2, none⟩ Hx643 fun To646 =>
 ldI .u64 ⟨b621, 3, none⟩ Hx643 fun Call647 =>
 ldI .u64 ⟨b621, 4, none⟩ Hx643 fun Floor648 =>
 ldI .i64 ⟨b621, 5, none⟩ Hx643 fun Op649 =>
 ldI .i64 ⟨b621, 6, none⟩ Hx643 fun Field650 =>
 ldI .i64 ⟨b621, 7, none⟩ Hx643 fun Item651 =>
 ldI .i64 ⟨b621, 8, none⟩ Hx643 fun Node652 =>
 ldI .u64 ⟨b621, 9, none⟩ Hx643 fun Serial653 =>
 ldSl ⟨b621, 10, none⟩ Hx643 fun RefsP654 RefsL655 RefsC656 =>
 ldI .u64 ⟨b621, 11, none⟩ Hx643 fun Value657 =>
 ldI .i64 ⟨b621, 12, none⟩ Hx643 fun Code658 =>
 ldI .u64 ⟨b621, 13, none⟩ Hx643 fun Seq659 =>
 ldI .i64 ⟨b621, 14, none⟩ Hx643 fun Voucher660 =>
 ldI .u64 ⟨b621, 15, none⟩ Hx643 fun At661 =>
 ldI .i64 ⟨b621, 16, none⟩ Hx643 fun Dist662 =>
 ldI .u64 ⟨b621, 17, none⟩ Hx643 fun Stamp663 =>
 ldSl ⟨b621, 18, none⟩ Hx643 fun ListP664 ListL665 ListC666 =>
 newB (.cells #[(.int .i64 0), (.int .i64 0), (.int .i64 0), (.int .u64 0), (.int .u64 0), (.int .i64 0), (.int .i64 0), (.int .i64 0), (.int .i64 0), (.int .u64 0), (.slice none 0 0), (.int .u64 0), (.int .i64 0), (.int .u64 0), (.int .i64 0), (.int .u64 0), (.int .i64 0), (.int .u64 0), (.slice none 0 0)] ty_api_Msg) Hx643 fun b667 Hx668 =>
 st ⟨b667, 0, none⟩ (.int .i64 Kind644) Hx668 fun Hx669 =>
 st ⟨b667, 1, none⟩ (.int .i64 From645) Hx669 fun Hx670 =>
 st ⟨b667, 2, none⟩ (.int .i64 To646) Hx670 fun Hx671 =>
 st ⟨b667, 3, none⟩ (.int .u64 Call647) Hx671 fun Hx672 =>
 st ⟨b667, 4, none⟩ (.int .u64 Floor648) Hx672 fun Hx673 =>
 st ⟨b667, 5, none⟩ (.int .i64 Op649) Hx673 fun Hx674 =>
 st ⟨b667, 6, none⟩ (.int .i64 Field650) Hx674 fun Hx675 =>
 st ⟨b667, 7, none⟩ (.int .i64 Item651) Hx675 fun Hx676 =>
 st ⟨b667, 8, none⟩ (.int .i64 Node652) Hx676 fun Hx677 =>
 st ⟨b667, 9, none⟩ (.int .u64 Serial653) Hx677 fun Hx678 =>
 st ⟨b667, 10, none⟩ (.slice RefsP654 RefsL655 RefsC656) Hx678 fun Hx679 =>
 st ⟨b667, 11, none⟩ (.int .u64 Value657) Hx679 fun Hx680 =>
 st ⟨b667, 12, none⟩ (.int .i64 Code658) Hx680 fun Hx681 =>
 st ⟨b667, 13, none⟩ (.int .u64 Seq659) Hx681 fun Hx682 =>
 st ⟨b667, 14, none⟩ (.int .i64 Voucher660) Hx682 fun Hx683 =>
 st ⟨b667, 15, none⟩ (.int .u64 At661) Hx683 fun Hx684 =>
 st ⟨b667, 16, none⟩ (.int .i64 Dist662) Hx684 fun Hx685 =>
 st ⟨b667, 17, none⟩ (.int .u64 Stamp663) Hx685 fun Hx686 =>
 st ⟨b667, 18, none⟩ (.slice ListP664 ListL665 ListC666) Hx686 fun Hx687 =>
 newB (.cells #[] ty_uint64) Hx687 fun b688 Hx689 =>
 ldSl ⟨b621, 18, none⟩ Hx689 fun ListP690 ListL691 ListC692 =>
 evW PR (Builtin.append_ #[ty_Suint64, ty_Suint64] ty_Suint64 #[(.slice (some ⟨b688, 0, none⟩) 0 0), (.slice ListP690 ListL691 ListC692)]) Hx689 fun v693 Hx694 =>
 asSl v693 fun tP695 tL696 tC697 =>
 st ⟨b667, 18, none⟩ (.slice tP695 tL696 tC697) Hx694 fun Hx698 =>
 ldI .i64 ⟨b667, 0, none⟩ Hx698 fun Kind699 =>
 ldI .i64 ⟨b667, 1, none⟩ Hx698 fun From700 =>
 ldI .i64 ⟨b667, 2, none⟩ Hx698 fun To701 =>
 ldI .u64 ⟨b667, 3, none⟩ Hx698 fun Call702 =>
 ldI .u64 ⟨b667, 4, none⟩ Hx698 fun Floor703 =>
 ldI .i64 ⟨b667, 5, none⟩ Hx698 fun Op704 =>
 ldI .i64 ⟨b667, 6, none⟩ Hx698 fun Field705 =>
 ldI .i64 ⟨b667, 7, none⟩ Hx698 fun Item706 =>
 ldI .i64 ⟨b667, 8, none⟩ Hx698 fun Node707 =>
 ldI .u64 ⟨b667, 9, none⟩ Hx698 fun Serial708 =>
 ldSl ⟨b667, 10, none⟩ Hx698 fun RefsP709 RefsL710 RefsC711 =>
 ldI .u64 ⟨b667, 11, none⟩ Hx698 fun Value712 =>
 ldI .i64 ⟨b667, 12, none⟩ Hx698 fun Code713 =>
 ldI .u64 ⟨b667, 13, none⟩ Hx698 fun Seq714 =>
 ldI .i64 ⟨b667, 14, none⟩ Hx698 fun Voucher715 =>
 ldI .u64 ⟨b667, 15, none⟩ Hx698 fun At716 =>
 ldI .i64 ⟨b667, 16, none⟩ Hx698 fun Dist717 =>
 ldI .u64 ⟨b667, 17, none⟩ Hx698 fun Stamp718 =>
 ldSl ⟨b667, 18, none⟩ Hx698 fun ListP719 ListL720 ListC721 =>
 ldI .i64 ⟨b621, 0, none⟩ Hx698 fun Kind722 =>
 ldI .i64 ⟨b621, 1, none⟩ Hx698 fun From723 =>
 ldI .i64 ⟨b621, 2, none⟩ Hx698 fun To724 =>
 ldI .u64 ⟨b621, 3, none⟩ Hx698 fun Call725 =>
 ldI .u64 ⟨b621, 4, none⟩ Hx698 fun Floor726 =>
 ldI .i64 ⟨b621, 5, none⟩ Hx698 fun Op727 =>
 ldI .i64 ⟨b621, 6, none⟩ Hx698 fun Field728 =>
 ldI .i64 ⟨b621, 7, none⟩ Hx698 fun Item729 =>
 ldI .i64 ⟨b621, 8, none⟩ Hx698 fun Node730 =>
 ldI .u64 ⟨b621, 9, none⟩ Hx698 fun Serial731 =>
 ldSl ⟨b621, 10, none⟩ Hx698 fun RefsP732 RefsL733 RefsC734 =>
 ldI .u64 ⟨b621, 11, none⟩ Hx698 fun Value735 =>
 ldI .i64 ⟨b621, 12, none⟩ Hx698 fun Code736 =>
 ldI .u64 ⟨b621, 13, none⟩ Hx698 fun Seq737 =>
 ldI .i64 ⟨b621, 14, none⟩ Hx698 fun Voucher738 =>
 ldI .u64 ⟨b621, 15, none⟩ Hx698 fun At739 =>
 ldI .i64 ⟨b621, 16, none⟩ Hx698 fun Dist740 =>
 ldI .u64 ⟨b621, 17, none⟩ Hx698 fun Stamp741 =>
 ldSl ⟨b621, 18, none⟩ Hx698 fun ListP742 ListL743 ListC744 =>
 hcall PR f_trace_Trace_Hear ⟨[(.pointer t171), (.agg #[(.int .i64 Kind699), (.int .i64 From700), (.int .i64 To701), (.int .u64 Call702), (.int .u64 Floor703), (.int .i64 Op704), (.int .i64 Field705), (.int .i64 Item706), (.int .i64 Node707), (.int .u64 Serial708), (.slice RefsP709 RefsL710 RefsC711), (.int .u64 Value712), (.int .i64 Code713), (.int .u64 Seq714), (.int .i64 Voucher715), (.int .u64 At716), (.int .i64 Dist717), (.int .u64 Stamp718), (.slice ListP719 ListL720 ListC721)])]⟩ Hx698 fun v745 Hx746 =>
 asB v745 fun t747 =>
 (ldI .i64 ⟨b621, 0, none⟩ Hx746 fun Kind748 =>
 ldI .i64 ⟨b621, 1, none⟩ Hx746 fun From749 =>
 ldI .i64 ⟨b621, 2, none⟩ Hx746 fun To750 =>
 ldI .u64 ⟨b621, 3, none⟩ Hx746 fun Call751 =>
 ldI .u64 ⟨b621, 4, none⟩ Hx746 fun Floor752 =>
 ldI .i64 ⟨b621, 5, none⟩ Hx746 fun Op753 =>
 ldI .i64 ⟨b621, 6, none⟩ Hx746 fun Field754 =>
 ldI .i64 ⟨b621, 7, none⟩ Hx746 fun Item755 =>
 ldI .i64 ⟨b621, 8, none⟩ Hx746 fun Node756 =>
 ldI .u64 ⟨b621, 9, none⟩ Hx746 fun Serial757 =>
 ldSl ⟨b621, 10, none⟩ Hx746 fun RefsP758 RefsL759 RefsC760 =>
 ldI .u64 ⟨b621, 11, none⟩ Hx746 fun Value761 =>
 ldI .i64 ⟨b621, 12, none⟩ Hx746 fun Code762 =>
 ldI .u64 ⟨b621, 13, none⟩ Hx746 fun Seq763 =>
 ldI .i64 ⟨b621, 14, none⟩ Hx746 fun Voucher764 =>
 ldI .u64 ⟨b621, 15, none⟩ Hx746 fun At765 =>
 ldI .i64 ⟨b621, 16, none⟩ Hx746 fun Dist766 =>
 ldI .u64 ⟨b621, 17, none⟩ Hx746 fun Stamp767 =>
 ldSl ⟨b621, 18, none⟩ Hx746 fun ListP768 ListL769 ListC770 =>
 ((.agg #[(.int .i64 Kind748), (.int .i64 From749), (.int .i64 To750), (.int .u64 Call751), (.int .u64 Floor752), (.int .i64 Op753), (.int .i64 Field754), (.int .i64 Item755), (.int .i64 Node756), (.int .u64 Serial757), (.slice RefsP758 RefsL759 RefsC760), (.int .u64 Value761), (.int .i64 Code762), (.int .u64 Seq763), (.int .i64 Voucher764), (.int .u64 At765), (.int .i64 Dist766), (.int .u64 Stamp767), (.slice ListP768 ListL769 ListC770)]) : Value) = (.agg #[(.int .i64 Kind722), (.int .i64 From723), (.int .i64 To724), (.int .u64 Call725), (.int .u64 Floor726), (.int .i64 Op727), (.int .i64 Field728), (.int .i64 Item729), (.int .i64 Node730), (.int .u64 Serial731), (.slice RefsP732 RefsL733 RefsC734), (.int .u64 Value735), (.int .i64 Code736), (.int .u64 Seq737), (.int .i64 Voucher738), (.int .u64 At739), (.int .i64 Dist740), (.int .u64 Stamp741), (.slice ListP742 ListL743 ListC744)])) ∧
 hcall PR f_ref22_Trace_Hear ⟨[(.pointer t197), (.agg #[(.int .i64 Kind722), (.int .i64 From723), (.int .i64 To724), (.int .u64 Call725), (.int .u64 Floor726), (.int .i64 Op727), (.int .i64 Field728), (.int .i64 Item729), (.int .i64 Node730), (.int .u64 Serial731), (.slice RefsP732 RefsL733 RefsC734), (.int .u64 Value735), (.int .i64 Code736), (.int .u64 Seq737), (.int .i64 Voucher738), (.int .u64 At739), (.int .i64 Dist740), (.int .u64 Stamp741), (.slice ListP742 ListL743 ListC744)])]⟩ Hx746 fun v771 Hx772 =>
 asB v771 fun t773 =>
 (bif (t747 == t773) then
 ldSl ⟨b667, 18, none⟩ Hx772 fun ListP774 ListL775 ListC776 =>
 ldSl ⟨b621, 18, none⟩ Hx772 fun ListP777 ListL778 ListC779 =>
 hcall PR f_ref2_Numbers ⟨[(.slice ListP774 ListL775 ListC776), (.slice ListP777 ListL778 ListC779)]⟩ Hx772 fun v780 Hx781 =>
 asB v780 fun t782 =>
 R290 t782 Hx781
else
 R290 false Hx772)) → R642 Hx643) →
 ldB ⟨b260, 6, none⟩ Hx641 fun Near783 =>
 (bif Near783 then
 ldI .i64 ⟨b121, 0, none⟩ Hx641 fun Nodes784 =>
 ldI .i64 ⟨b121, 1, none⟩ Hx641 fun Mutators785 =>
 ldI .i64 ⟨b121, 2, none⟩ Hx641 fun Slots786 =>
 ldI .i64 ⟨b121, 3, none⟩ Hx641 fun Cells787 =>
 ldI .i64 ⟨b121, 4, none⟩ Hx641 fun Objects788 =>
 ldI .i64 ⟨b121, 5, none⟩ Hx641 fun Stubs789 =>
 ldI .i64 ⟨b121, 6, none⟩ Hx641 fun Calls790 =>
 ldI .i64 ⟨b121, 7, none⟩ Hx641 fun Window791 =>
 ldI .i64 ⟨b121, 8, none⟩ Hx641 fun Grey792 =>
 ldI .i64 ⟨b121, 9, none⟩ Hx641 fun Bag793 =>
 ldI .i64 ⟨b121, 10, none⟩ Hx641 fun Inbox794 =>
 ldI .u64 ⟨b121, 11, none⟩ Hx641 fun Unit795 =>
 ldI .u64 ⟨b121, 12, none⟩ Hx641 fun Drift796 =>
 ldI .u64 ⟨b121, 13, none⟩ Hx641 fun Lease797 =>
 ldI .u64 ⟨b121, 14, none⟩ Hx641 fun Wait798 =>
 ldI .u64 ⟨b121, 15, none⟩ Hx641 fun Most799 =>
 ldI .u64 ⟨b121, 16, none⟩ Hx641 fun Patience800 =>
 ldI .i64 ⟨b121, 17, none⟩ Hx641 fun Suspect801 =>
 ldI .i64 ⟨b121, 18, none⟩ Hx641 fun Trace802 =>
 ldI .i64 ⟨b121, 19, none⟩ Hx641 fun Work803 =>
 ldI .u64 ⟨b121, 20, none⟩ Hx641 fun Start804 =>
 ldI .u64 ⟨b121, 21, none⟩ Hx641 fun Last805 =>
 ldI .i64 ⟨b201, 0, none⟩ Hx641 fun Kind806 =>
 ldI .i64 ⟨b201, 1, none⟩ Hx641 fun From807 =>
 ldI .i64 ⟨b201, 2, none⟩ Hx641 fun To808 =>
 ldI .u64 ⟨b201, 3, none⟩ Hx641 fun Call809 =>
 ldI .u64 ⟨b201, 4, none⟩ Hx641 fun Floor810 =>
 ldI .i64 ⟨b201, 5, none⟩ Hx641 fun Op811 =>
 ldI .i64 ⟨b201, 6, none⟩ Hx641 fun Field812 =>
 ldI .i64 ⟨b201, 7, none⟩ Hx641 fun Item813 =>
 ldI .i64 ⟨b201, 8, none⟩ Hx641 fun Node814 =>
 ldI .u64 ⟨b201, 9, none⟩ Hx641 fun Serial815 =>
 ldSl ⟨b201, 10, none⟩ Hx641 fun RefsP816 RefsL817 RefsC818 =>
 ldI .u64 ⟨b201, 11, none⟩ Hx641 fun Value819 =>
 ldI .i64 ⟨b201, 12, none⟩ Hx641 fun Code820 =>
 ldI .u64 ⟨b201, 13, none⟩ Hx641 fun Seq821 =>
 ldI .i64 ⟨b201, 14, none⟩ Hx641 fun Voucher822 =>
 ldI .u64 ⟨b201, 15, none⟩ Hx641 fun At823 =>
 ldI .i64 ⟨b201, 16, none⟩ Hx641 fun Dist824 =>
 ldI .u64 ⟨b201, 17, none⟩ Hx641 fun Stamp825 =>
 ldSl ⟨b201, 18, none⟩ Hx641 fun ListP826 ListL827 ListC828 =>
 ldI .i64 ⟨b260, 0, none⟩ Hx641 fun What829 =>
 ldI .i64 ⟨b260, 1, none⟩ Hx641 fun Code830 =>
 ldI .i64 ⟨b260, 2, none⟩ Hx641 fun Off831 =>
 ldI .u64 ⟨b260, 3, none⟩ Hx641 fun Stamp832 =>
 ldI .u64 ⟨b260, 4, none⟩ Hx641 fun N833 =>
 ldSl ⟨b260, 5, none⟩ Hx641 fun ListP834 ListL835 ListC836 =>
 ldB ⟨b260, 6, none⟩ Hx641 fun Near837 =>
 ldI .i64 ⟨b260, 7, none⟩ Hx641 fun Kind838 =>
 ldI .i64 ⟨b260, 8, none⟩ Hx641 fun From839 =>
 ldI .i64 ⟨b260, 9, none⟩ Hx641 fun To840 =>
 ldI .u64 ⟨b260, 10, none⟩ Hx641 fun Call841 =>
 ldI .u64 ⟨b260, 11, none⟩ Hx641 fun Floor842 =>
 ldI .i64 ⟨b260, 12, none⟩ Hx641 fun Op843 =>
 ldI .i64 ⟨b260, 13, none⟩ Hx641 fun Field844 =>
 ldI .i64 ⟨b260, 14, none⟩ Hx641 fun Item845 =>
 ldI .i64 ⟨b260, 15, none⟩ Hx641 fun Node846 =>
 ldI .u64 ⟨b260, 16, none⟩ Hx641 fun Serial847 =>
 ldSl ⟨b260, 17, none⟩ Hx641 fun RefsP848 RefsL849 RefsC850 =>
 ldI .u64 ⟨b260, 18, none⟩ Hx641 fun Value851 =>
 ldI .i64 ⟨b260, 19, none⟩ Hx641 fun Code852 =>
 ldI .u64 ⟨b260, 20, none⟩ Hx641 fun Seq853 =>
 ldI .i64 ⟨b260, 21, none⟩ Hx641 fun Voucher854 =>
 ldI .u64 ⟨b260, 22, none⟩ Hx641 fun At855 =>
 ldI .i64 ⟨b260, 23, none⟩ Hx641 fun Dist856 =>
 ldI .u64 ⟨b260, 24, none⟩ Hx641 fun Stamp857 =>
 ldSl ⟨b260, 25, none⟩ Hx641 fun ListP858 ListL859 ListC860 =>
 hcall PR f_law23_told ⟨[(.agg #[(.int .i64 Nodes784), (.int .i64 Mutators785), (.int .i64 Slots786), (.int .i64 Cells787), (.int .i64 Objects788), (.int .i64 Stubs789), (.int .i64 Calls790), (.int .i64 Window791), (.int .i64 Grey792), (.int .i64 Bag793), (.int .i64 Inbox794), (.int .u64 Unit795), (.int .u64 Drift796), (.int .u64 Lease797), (.int .u64 Wait798), (.int .u64 Most799), (.int .u64 Patience800), (.int .i64 Suspect801), (.int .i64 Trace802), (.int .i64 Work803), (.int .u64 Start804), (.int .u64 Last805)]), (.agg #[(.int .i64 Kind806), (.int .i64 From807), (.int .i64 To808), (.int .u64 Call809), (.int .u64 Floor810), (.int .i64 Op811), (.int .i64 Field812), (.int .i64 Item813), (.int .i64 Node814), (.int .u64 Serial815), (.slice RefsP816 RefsL817 RefsC818), (.int .u64 Value819), (.int .i64 Code820), (.int .u64 Seq821), (.int .i64 Voucher822), (.int .u64 At823), (.int .i64 Dist824), (.int .u64 Stamp825), (.slice ListP826 ListL827 ListC828)]), (.agg #[(.int .i64 What829), (.int .i64 Code830), (.int .i64 Off831), (.int .u64 Stamp832), (.int .u64 N833), (.slice ListP834 ListL835 ListC836), (.bool Near837), (.int .i64 Kind838), (.int .i64 From839), (.int .i64 To840), (.int .u64 Call841), (.int .u64 Floor842), (.int .i64 Op843), (.int .i64 Field844), (.int .i64 Item845), (.int .i64 Node846), (.int .u64 Serial847), (.slice RefsP848 RefsL849 RefsC850), (.int .u64 Value851), (.int .i64 Code852), (.int .u64 Seq853), (.int .i64 Voucher854), (.int .u64 At855), (.int .i64 Dist856), (.int .u64 Stamp857), (.slice ListP858 ListL859 ListC860)])]⟩ Hx641 fun v861 Hx862 =>
 asAgg' v861 fun cs863 =>
 unCons cs863.toList fun v864 r865 =>
 unCons r865 fun v866 r867 =>
 unCons r867 fun v868 r869 =>
 unCons r869 fun v870 r871 =>
 unCons r871 fun v872 r873 =>
 unCons r873 fun v874 r875 =>
 unCons r875 fun v876 r877 =>
 unCons r877 fun v878 r879 =>
 unCons r879 fun v880 r881 =>
 unCons r881 fun v882 r883 =>
 unCons r883 fun v884 r885 =>
 unCons r885 fun v886 r887 =>
 unCons r887 fun v888 r889 =>
 unCons r889 fun v890 r891 =>
 unCons r891 fun v892 r893 =>
 unCons r893 fun v894 r895 =>
 unCons r895 fun v896 r897 =>
 unCons r897 fun v898 r899 =>
 unCons r899 fun v900 r901 =>
 unNil r901 <|
 asI .i64 v864 fun Kind902 =>
 asI .i64 v866 fun From903 =>
 asI .i64 v868 fun To904 =>
 asI .u64 v870 fun Call905 =>
 asI .u64 v872 fun Floor906 =>
 asI .i64 v874 fun Op907 =>
 asI .i64 v876 fun Field908 =>
 asI .i64 v878 fun Item909 =>
 asI .i64 v880 fun Node910 =>
 asI .u64 v882 fun Serial911 =>
 asSl v884 fun RefsP912 RefsL913 RefsC914 =>
 asI .u64 v886 fun Value915 =>
 asI .i64 v888 fun Code916 =>
 asI .u64 v890 fun Seq917 =>
 asI .i64 v892 fun Voucher918 =>
 asI .u64 v894 fun At919 =>
 asI .i64 v896 fun Dist920 =>
 asI .u64 v898 fun Stamp921 =>
 asSl v900 fun ListP922 ListL923 ListC924 =>
 st ⟨b621, 0, none⟩ (.int .i64 Kind902) Hx862 fun Hx925 =>
 st ⟨b621, 1, none⟩ (.int .i64 From903) Hx925 fun Hx926 =>
 st ⟨b621, 2, none⟩ (.int .i64 To904) Hx926 fun Hx927 =>
 st ⟨b621, 3, none⟩ (.int .u64 Call905) Hx927 fun Hx928 =>
 st ⟨b621, 4, none⟩ (.int .u64 Floor906) Hx928 fun Hx929 =>
 st ⟨b621, 5, none⟩ (.int .i64 Op907) Hx929 fun Hx930 =>
 st ⟨b621, 6, none⟩ (.int .i64 Field908) Hx930 fun Hx931 =>
 st ⟨b621, 7, none⟩ (.int .i64 Item909) Hx931 fun Hx932 =>
 st ⟨b621, 8, none⟩ (.int .i64 Node910) Hx932 fun Hx933 =>
 st ⟨b621, 9, none⟩ (.int .u64 Serial911) Hx933 fun Hx934 =>
 st ⟨b621, 10, none⟩ (.slice RefsP912 RefsL913 RefsC914) Hx934 fun Hx935 =>
 st ⟨b621, 11, none⟩ (.int .u64 Value915) Hx935 fun Hx936 =>
 st ⟨b621, 12, none⟩ (.int .i64 Code916) Hx936 fun Hx937 =>
 st ⟨b621, 13, none⟩ (.int .u64 Seq917) Hx937 fun Hx938 =>
 st ⟨b621, 14, none⟩ (.int .i64 Voucher918) Hx938 fun Hx939 =>
 st ⟨b621, 15, none⟩ (.int .u64 At919) Hx939 fun Hx940 =>
 st ⟨b621, 16, none⟩ (.int .i64 Dist920) Hx940 fun Hx941 =>
 st ⟨b621, 17, none⟩ (.int .u64 Stamp921) Hx941 fun Hx942 =>
 st ⟨b621, 18, none⟩ (.slice ListP922 ListL923 ListC924) Hx942 fun Hx943 =>
 R642 Hx943
else
 R642 Hx641)
else
 ∀ R944 : Option Addr → Hp → Prop, (∀ y946 : Option Addr, ∀ Hx945 : Hp, (
 asA (.pointer y946) fun ya947 =>
 ldI .i64 ya947 Hx945 fun Node948 =>
 ldI .u64 (ya947.add 1) Hx945 fun Serial949 =>
 asA (.pointer y946) fun ya950 =>
 ldI .i64 ya950 Hx945 fun Node951 =>
 ldI .u64 (ya950.add 1) Hx945 fun Serial952 =>
 hcall PR f_trace_Trace_Begin ⟨[(.pointer t171), (.agg #[(.int .i64 Node948), (.int .u64 Serial949)]), (.int .u64 (IntKind.u64.wrap (now225 + (Int.tmod N288 (IntKind.u64.wrap (2 * Most289))))))]⟩ Hx945 fun v953 Hx954 =>
 asI .i64 v953 fun t955 =>
 (asA (.pointer y946) fun ya956 =>
 ldI .i64 ya956 Hx954 fun Node957 =>
 ldI .u64 (ya956.add 1) Hx954 fun Serial958 =>
 ((.agg #[(.int .i64 Node957), (.int .u64 Serial958)]) : Value) = (.agg #[(.int .i64 Node951), (.int .u64 Serial952)])) ∧
 hcall PR f_ref22_Trace_Begin ⟨[(.pointer t197), (.agg #[(.int .i64 Node951), (.int .u64 Serial952)]), (.int .u64 (IntKind.u64.wrap (now225 + (Int.tmod N288 (IntKind.u64.wrap (2 * Most289))))))]⟩ Hx954 fun v959 Hx960 =>
 asI .i64 v959 fun t961 =>
 R290 ((t955 : Int) == t961) Hx960) → R944 y946 Hx945) →
 ldI .i64 ⟨b260, 1, none⟩ Hx326 fun Code962 =>
 ldI .i64 ⟨b121, 0, none⟩ Hx326 fun Nodes963 =>
 ldI .u64 ⟨b260, 3, none⟩ Hx326 fun Stamp964 =>
 (5 : Int) ≠ 0 ∧
 (hcall PR f_hand_Pick ⟨[(.int .i64 Code962), (.int .i64 (IntKind.i64.wrap (Nodes963 + 1)))]⟩ Hx326 fun v965 Hx966 =>
 asI .i64 v965 fun t967 =>
 (ldI .u64 ⟨b260, 3, none⟩ Hx966 fun Stamp968 =>
 ((.int .u64 Stamp968) : Value) = (.int .u64 Stamp964)) ∧
 newB (.cells #[(.int .i64 0), (.int .u64 0)] ty_api_ID) Hx966 fun b969 Hx970 =>
 (ldI .u64 ⟨b260, 3, none⟩ Hx970 fun Stamp971 =>
 ((.int .u64 Stamp971) : Value) = (.int .u64 Stamp964)) ∧
 st ⟨b969, 0, none⟩ (.int .i64 (IntKind.i64.wrap (1 + t967))) Hx970 fun Hx972 =>
 st ⟨b969, 1, none⟩ (.int .u64 (IntKind.u64.wrap (1 + (Int.tmod Stamp964 5)))) Hx972 fun Hx973 =>
 R944 (some ⟨b969, 0, none⟩) Hx973) ∧
 (newB (.cells #[(.int .i64 0), (.int .u64 0)] ty_api_ID) Hx326 fun b974 Hx975 =>
 (ldI .u64 ⟨b260, 3, none⟩ Hx975 fun Stamp976 =>
 ((.int .u64 Stamp976) : Value) = (.int .u64 Stamp964)) ∧
 (ldI .i64 ⟨b121, 0, none⟩ Hx975 fun Nodes977 =>
 ((.int .i64 Nodes977) : Value) = (.int .i64 Nodes963)) ∧
 (ldI .i64 ⟨b260, 1, none⟩ Hx975 fun Code978 =>
 ((.int .i64 Code978) : Value) = (.int .i64 Code962)) ∧
 hcall PR f_hand_Pick ⟨[(.int .i64 Code962), (.int .i64 (IntKind.i64.wrap (Nodes963 + 1)))]⟩ Hx975 fun v979 Hx980 =>
 asI .i64 v979 fun t981 =>
 (ldI .u64 ⟨b260, 3, none⟩ Hx980 fun Stamp982 =>
 ((.int .u64 Stamp982) : Value) = (.int .u64 Stamp964)) ∧
 st ⟨b974, 0, none⟩ (.int .i64 (IntKind.i64.wrap (1 + t981))) Hx980 fun Hx983 =>
 st ⟨b974, 1, none⟩ (.int .u64 (IntKind.u64.wrap (1 + (Int.tmod Stamp964 5)))) Hx983 fun Hx984 =>
 R944 (some ⟨b974, 0, none⟩) Hx984)))
else
 K (.bool true) Hx224)
else
 K (.bool true) Hx224)))))
theorem E_law23_TracePlays (rawNodes1 : Int) (rawMutators2 : Int) (rawSlots3 : Int) (rawCells4 : Int) (rawObjects5 : Int) (rawStubs6 : Int) (rawCalls7 : Int) (rawWindow8 : Int) (rawGrey9 : Int) (rawBag10 : Int) (rawInbox11 : Int) (rawUnit12 : Int) (rawDrift13 : Int) (rawLease14 : Int) (rawWait15 : Int) (rawMost16 : Int) (rawPatience17 : Int) (rawSuspect18 : Int) (rawTrace19 : Int) (rawWork20 : Int) (rawStart21 : Int) (rawLast22 : Int) (node23 : Int) (last24 : Int) (lP25 : Option Addr) (lL26 : Nat) (lC27 : Nat) (H : Hp) (K : Value → Hp → Prop) : B_law23_TracePlays rawNodes1 rawMutators2 rawSlots3 rawCells4 rawObjects5 rawStubs6 rawCalls7 rawWindow8 rawGrey9 rawBag10 rawInbox11 rawUnit12 rawDrift13 rawLease14 rawWait15 rawMost16 rawPatience17 rawSuspect18 rawTrace19 rawWork20 rawStart21 rawLast22 node23 last24 lP25 lL26 lC27 H K = denF Try.prog Try.f12 (.seq none .n (.seq none .n (.seq none .n (.seq none .n (.seq none .n (.seq none .n (.seq none .n (.seq none .n (.seq none .n (.seq none (.seq none .n (.sub (.loop ⟨[(13, .int .u64), (15, .int .i64)], [3, 9, 10, 12, 14]⟩ (.seq none .n (.seq none (.sub (.seq none .n (.seq none .n (.seq none .n (.seq (some ⟨[(17, .bool)], [3, 9, 10, 12, 13, 14, 15]⟩) (.seq none .n (.sub (.seq none .n (.two (.seq none .n (.seq none .n (.seq (some ⟨[(17, .bool)], [3, 9, 10, 12, 13, 14, 15, 21, 22]⟩) .n .n))) (.seq none .n (.two (.seq none .n (.seq (some ⟨[], [3, 9, 10, 12, 13, 14, 15, 23]⟩) .n .n)) (.seq (some ⟨[(25, .ptr)], [3, 9, 10, 12, 13, 14, 15]⟩) .n .n))))))) .n))))) .n))))) .n)))))))))) [(.agg #[(.int .i64 rawNodes1), (.int .i64 rawMutators2), (.int .i64 rawSlots3), (.int .i64 rawCells4), (.int .i64 rawObjects5), (.int .i64 rawStubs6), (.int .i64 rawCalls7), (.int .i64 rawWindow8), (.int .i64 rawGrey9), (.int .i64 rawBag10), (.int .i64 rawInbox11), (.int .i64 rawUnit12), (.int .i64 rawDrift13), (.int .i64 rawLease14), (.int .i64 rawWait15), (.int .i64 rawMost16), (.int .i64 rawPatience17), (.int .i64 rawSuspect18), (.int .i64 rawTrace19), (.int .i64 rawWork20), (.int .u64 rawStart21), (.int .u64 rawLast22)]), (.int .i64 node23), (.int .u64 last24), (.slice lP25 lL26 lC27)] H K := by kernel_rfl
theorem den_law23_TracePlays {rawNodes1 : Int} {rawMutators2 : Int} {rawSlots3 : Int} {rawCells4 : Int} {rawObjects5 : Int} {rawStubs6 : Int} {rawCalls7 : Int} {rawWindow8 : Int} {rawGrey9 : Int} {rawBag10 : Int} {rawInbox11 : Int} {rawUnit12 : Int} {rawDrift13 : Int} {rawLease14 : Int} {rawWait15 : Int} {rawMost16 : Int} {rawPatience17 : Int} {rawSuspect18 : Int} {rawTrace19 : Int} {rawWork20 : Int} {rawStart21 : Int} {rawLast22 : Int} {node23 : Int} {last24 : Int} {lP25 : Option Addr} {lL26 : Nat} {lC27 : Nat} {H : Hp} {K : Value → Hp → Prop} (h : B_law23_TracePlays rawNodes1 rawMutators2 rawSlots3 rawCells4 rawObjects5 rawStubs6 rawCalls7 rawWindow8 rawGrey9 rawBag10 rawInbox11 rawUnit12 rawDrift13 rawLease14 rawWait15 rawMost16 rawPatience17 rawSuspect18 rawTrace19 rawWork20 rawStart21 rawLast22 node23 last24 lP25 lL26 lC27 H K) : hcall PR f_law23_TracePlays ⟨[(.agg #[(.int .i64 rawNodes1), (.int .i64 rawMutators2), (.int .i64 rawSlots3), (.int .i64 rawCells4), (.int .i64 rawObjects5), (.int .i64 rawStubs6), (.int .i64 rawCalls7), (.int .i64 rawWindow8), (.int .i64 rawGrey9), (.int .i64 rawBag10), (.int .i64 rawInbox11), (.int .i64 rawUnit12), (.int .i64 rawDrift13), (.int .i64 rawLease14), (.int .i64 rawWait15), (.int .i64 rawMost16), (.int .i64 rawPatience17), (.int .i64 rawSuspect18), (.int .i64 rawTrace19), (.int .i64 rawWork20), (.int .u64 rawStart21), (.int .u64 rawLast22)]), (.int .i64 node23), (.int .u64 last24), (.slice lP25 lL26 lC27)]⟩ H K := denF_call Try.func12 PR_mixed (Eq.mp (E_law23_TracePlays rawNodes1 rawMutators2 rawSlots3 rawCells4 rawObjects5 rawStubs6 rawCalls7 rawWindow8 rawGrey9 rawBag10 rawInbox11 rawUnit12 rawDrift13 rawLease14 rawWait15 rawMost16 rawPatience17 rawSuspect18 rawTrace19 rawWork20 rawStart21 rawLast22 node23 last24 lP25 lL26 lC27 H K) h)

end Go.Proofs.Ytknejebggegfjaa

namespace Go.Proofs.Ytknejebggegfjaa
set_option linter.unusedSimpArgs false
set_option linter.unusedVariables false
set_option maxRecDepth 20000
open Go
/-- What stays. -/
structure Tin (nodes : Int) (t : Tr) : Prop where
  ok : t.ok nodes
  ids : t.ids
  wait : 0 ≤ t.wait
  num : 0 ≤ t.num ∧ t.num ≤ 72057594037927935
  node : 1 ≤ t.node ∧ t.node ≤ nodes
section
variable {nodes : Int} {t : Tr}
theorem lWait_pos {w a b : Int} (ha : 0 ≤ a) (hb : 0 ≤ b) : 0 ≤ lWait w a b := by
  unfold lWait
  split
  · split <;> omega
  · split
    · omega
    · rw [wrap_u64]; omega
theorem Tin.told {a b now : Int} (ha : 0 ≤ a) (hb : 0 ≤ b) (h : Tin nodes t) : Tin nodes (t.told a b now) := ⟨h.ok.told, h.ids, lWait_pos ha hb, h.num, h.node⟩
theorem hear_stays {m : Ms} : (t.hear nodes m).node = t.node ∧ (t.hear nodes m).num = t.num ∧ ((t.hear nodes m).wait = t.wait ∨ (t.hear nodes m).wait = 0) := by
  have onw : ∀ u : Tr, u.onward.node = u.node ∧ u.onward.num = u.num ∧ u.onward.wait = 0 := fun u => by
    unfold Tr.onward
    split
    · exact ⟨rfl, rfl, rfl⟩
    split <;> exact ⟨rfl, rfl, rfl⟩
  unfold Tr.hear
  split
  · exact ⟨rfl, rfl, .inl rfl⟩
  split
  · unfold Tr.asked
    split
    · have := onw (t.code 0)
      exact ⟨this.1, this.2.1, .inr this.2.2⟩
    split
    · split
      · exact ⟨rfl, rfl, .inr rfl⟩
      split
      · exact ⟨rfl, rfl, .inr rfl⟩
      · have := onw { t with items := (moreL nodes (t.items.getD t.opn.toNat noIt) m.list (t.code 2).items).2, sm := mput t.sm (t.items.getD t.opn.toNat noIt).node m.stamp }
        exact ⟨this.1, this.2.1, .inr this.2.2⟩
    · exact ⟨rfl, rfl, .inr rfl⟩
  split
  · unfold Tr.checked
    split
    · exact ⟨rfl, rfl, .inr rfl⟩
    split
    · exact ⟨rfl, rfl, .inr rfl⟩
    split <;> exact ⟨rfl, rfl, .inr rfl⟩
  · unfold Tr.buried
    split <;> exact ⟨rfl, rfl, .inr rfl⟩
theorem Tin.hear {m : Ms} (hn : 1 ≤ nodes ∧ nodes ≤ 12) (h : Tin nodes t) : Tin nodes (t.hear nodes m) := by
  obtain ⟨e1, e2, e3⟩ := hear_stays (nodes := nodes) (t := t) (m := m)
  refine ⟨h.ok.hear hn, h.ids.hear hn.2 h.ok, ?_, by rw [e2]; exact h.num, by rw [e1]; exact h.node⟩
  have := h.wait
  omega
theorem Tin.begun {n s now : Int} (hn : 1 ≤ nodes ∧ nodes ≤ 12) (h : Tin nodes t) (hb : t.beginE nodes n s = 0) : Tin nodes (t.begun n s now) := by
  have h1 := h.num
  unfold Tr.beginE at hb
  split at hb
  · omega
  split at hb
  · omega
  split at hb
  · omega
  split at hb
  · omega
  split at hb
  · omega
  split at hb
  · omega
  split at hb
  · omega
  have e : (t.begun n s now).num = t.num + 1 := by
    show IntKind.u64.wrap (t.num + 1) = t.num + 1
    rw [wrap_u64' (by omega) (by omega)]
  refine ⟨Tr.begun_ok h.node, fun x hx => ?_, Int.le_refl _, by rw [e]; omega, h.node⟩
  obtain rfl : x = ⟨false, t.node, ⟨n, s⟩, 0⟩ := by simpa [Tr.begun] using hx
  show 1 ≤ n ∧ n ≤ 72057594037927935
  omega
theorem newTr_in {node last : Int} (h1 : 1 ≤ node ∧ node ≤ nodes) (h2 : 0 ≤ last ∧ last ≤ 72057594037927935) : Tin nodes (newTr node last) := ⟨newTr_ok, fun x hx => (by cases hx), Int.le_refl _, h2, h1⟩
def openQ : Qn := ⟨0, 0, 0, 0, 0, 0, noId, 0⟩
def noStp : Stp := ⟨0, 0, 0, 0, 0, none, 0, 0, false, [], mg0⟩
end
set_option maxHeartbeats 6000000 in
theorem TracePlays_r {r : Cf} {node last : Int} {sp : Option Addr} {sl sc : Nat} {l : List Stp} {H : Hp} {K : Value → Hp → Prop} (h20 : 0 ≤ r.a20) (h21 : 0 ≤ r.a21) (hlast : 0 ≤ last) (hl : Rd H 26 sp sl (cel Stp.cells l)) (hsl : sl ≤ 9223372036854775807) (hgood : ∀ x ∈ l, x.good H)
    (hK : ∀ H', Keep Nothing H H' → K (.bool true) H') : hcall PR f_law23_TracePlays ⟨[r.raw, .int .i64 node, .int .u64 last, .slice sp sl sc]⟩ H K := by
  apply den_law23_TracePlays
  unfold B_law23_TracePlays
  intro br hbr
  have g1 := (St.start H).alloc (o := .cells #[.int .i64 r.a0, .int .i64 r.a1, .int .i64 r.a2, .int .i64 r.a3, .int .i64 r.a4, .int .i64 r.a5, .int .i64 r.a6, .int .i64 r.a7, .int .i64 r.a8, .int .i64 r.a9, .int .i64 r.a10, .int .i64 r.a11, .int .i64 r.a12, .int .i64 r.a13, .int .i64 r.a14, .int .i64 r.a15, .int .i64 r.a16, .int .i64 r.a17, .int .i64 r.a18, .int .i64 r.a19, .int .u64 r.a20, .int .u64 r.a21] ty_hand_Raw) hbr
  refine ldI_of (g1.cell (i := 0) rfl rfl) (ldI_of (g1.cell (i := 0) rfl rfl) (ldI_of (g1.cell (i := 0) rfl rfl) (ldI_of (g1.cell (i := 0) rfl rfl) (ldI_of (g1.cell (i := 0) rfl rfl) (ldI_of (g1.cell (i := 0) rfl rfl) (ldI_of (g1.cell (i := 0) rfl rfl) (ldI_of (g1.cell (i := 0) rfl rfl) (ldI_of (g1.cell (i := 0) rfl rfl) (ldI_of (g1.cell (i := 0) rfl rfl) (ldI_of (g1.cell (i := 0) rfl rfl) (ldI_of (g1.cell (i := 0) rfl rfl) (ldI_of (g1.cell (i := 0) rfl rfl) (ldI_of (g1.cell (i := 0) rfl rfl) (ldI_of (g1.cell (i := 0) rfl rfl) (ldI_of (g1.cell (i := 0) rfl rfl) (ldI_of (g1.cell (i := 0) rfl rfl) (ldI_of (g1.cell (i := 0) rfl rfl) (ldI_of (g1.cell (i := 0) rfl rfl) (ldI_of (g1.cell (i := 0) rfl rfl) (ldI_of (g1.cell (i := 0) rfl rfl) (ldI_of (g1.cell (i := 0) rfl rfl) (?_))))))))))))))))))))))
  have hg : (confOf r).good := conf_good h20 h21
  refine configC (r := r) g1 fun H2 g2 => ?_
  obtain ⟨c, hc⟩ : ∃ c, c = confOf r := ⟨_, rfl⟩
  rw [← hc] at hg ⊢
  unfold Cf.val
  (try simp (config := { maxSteps := 3000000 }) only [asI_mk', asB_mk, asP_mk, asA_mk, asM_mk, asSl_mk, asStr_mk, tup2_mk, tup3_mk, agg1_mk, agg2_mk, agg3_mk, agg4_mk, asAggm, unCons_mk, unNil_mk, asTup_mk, extractD0, extractD1, List.toList_toArray, nilP_mk, add_mk, Nat.zero_add, Nat.add_zero, condT, condF, Bool.not_true, Bool.not_false, Option.isNone_some, Option.isNone_none])
  refine boxz (c := [.int .i64 0, .int .i64 0, .int .i64 0, .int .i64 0, .int .i64 0, .int .i64 0, .int .i64 0, .int .i64 0, .int .i64 0, .int .i64 0, .int .i64 0, .int .u64 0, .int .u64 0, .int .u64 0, .int .u64 0, .int .u64 0, .int .u64 0, .int .i64 0, .int .i64 0, .int .i64 0, .int .u64 0, .int .u64 0]) (vs := [.int .i64 c.a0, .int .i64 c.a1, .int .i64 c.a2, .int .i64 c.a3, .int .i64 c.a4, .int .i64 c.a5, .int .i64 c.a6, .int .i64 c.a7, .int .i64 c.a8, .int .i64 c.a9, .int .i64 c.a10, .int .u64 c.a11, .int .u64 c.a12, .int .u64 c.a13, .int .u64 c.a14, .int .u64 c.a15, .int .u64 c.a16, .int .i64 c.a17, .int .i64 c.a18, .int .i64 c.a19, .int .u64 c.a20, .int .u64 c.a21]) g2 rfl fun bc H3 g3 => ?_
  have g3 : St H [Prt.one bc (.cells #[.int .i64 c.a0, .int .i64 c.a1, .int .i64 c.a2, .int .i64 c.a3, .int .i64 c.a4, .int .i64 c.a5, .int .i64 c.a6, .int .i64 c.a7, .int .i64 c.a8, .int .i64 c.a9, .int .i64 c.a10, .int .u64 c.a11, .int .u64 c.a12, .int .u64 c.a13, .int .u64 c.a14, .int .u64 c.a15, .int .u64 c.a16, .int .i64 c.a17, .int .i64 c.a18, .int .i64 c.a19, .int .u64 c.a20, .int .u64 c.a21] ty_api_Config (0, 0)), Prt.one br (.cells #[.int .i64 r.a0, .int .i64 r.a1, .int .i64 r.a2, .int .i64 r.a3, .int .i64 r.a4, .int .i64 r.a5, .int .i64 r.a6, .int .i64 r.a7, .int .i64 r.a8, .int .i64 r.a9, .int .i64 r.a10, .int .i64 r.a11, .int .i64 r.a12, .int .i64 r.a13, .int .i64 r.a14, .int .i64 r.a15, .int .i64 r.a16, .int .i64 r.a17, .int .i64 r.a18, .int .i64 r.a19, .int .u64 r.a20, .int .u64 r.a21] ty_hand_Raw (0, 0))] H3 := g3
  refine ldI_of (g3.cell (i := 0) rfl rfl) (ldI_of (g3.cell (i := 0) rfl rfl) (ldI_of (g3.cell (i := 0) rfl rfl) (ldI_of (g3.cell (i := 0) rfl rfl) (ldI_of (g3.cell (i := 0) rfl rfl) (ldI_of (g3.cell (i := 0) rfl rfl) (ldI_of (g3.cell (i := 0) rfl rfl) (ldI_of (g3.cell (i := 0) rfl rfl) (ldI_of (g3.cell (i := 0) rfl rfl) (ldI_of (g3.cell (i := 0) rfl rfl) (ldI_of (g3.cell (i := 0) rfl rfl) (ldI_of (g3.cell (i := 0) rfl rfl) (ldI_of (g3.cell (i := 0) rfl rfl) (ldI_of (g3.cell (i := 0) rfl rfl) (ldI_of (g3.cell (i := 0) rfl rfl) (ldI_of (g3.cell (i := 0) rfl rfl) (ldI_of (g3.cell (i := 0) rfl rfl) (ldI_of (g3.cell (i := 0) rfl rfl) (ldI_of (g3.cell (i := 0) rfl rfl) (ldI_of (g3.cell (i := 0) rfl rfl) (ldI_of (g3.cell (i := 0) rfl rfl) (ldI_of (g3.cell (i := 0) rfl rfl) (?_))))))))))))))))))))))
  have ha0 := hg.a0
  have ha14 := hg.a14
  have ha15 := hg.a15
  have hn12 : 1 ≤ c.a0 ∧ c.a0 ≤ 12 := by omega
  refine newC (c := c) hg g3 (fun hbad H4 g4 => ?_) fun q1 q2 tb H4 g4 => ?_
  · (try simp (config := { maxSteps := 3000000 }) only [asI_mk', asB_mk, asP_mk, asA_mk, asM_mk, asSl_mk, asStr_mk, tup2_mk, tup3_mk, agg1_mk, agg2_mk, agg3_mk, agg4_mk, asAggm, unCons_mk, unNil_mk, asTup_mk, extractD0, extractD1, List.toList_toArray, nilP_mk, add_mk, Nat.zero_add, Nat.add_zero, condT, condF, Bool.not_true, Bool.not_false, Option.isNone_some, Option.isNone_none])
    refine ldI_of (g4.cell (i := 0) rfl rfl) (ldI_of (g4.cell (i := 0) rfl rfl) (ldI_of (g4.cell (i := 0) rfl rfl) (ldI_of (g4.cell (i := 0) rfl rfl) (ldI_of (g4.cell (i := 0) rfl rfl) (ldI_of (g4.cell (i := 0) rfl rfl) (ldI_of (g4.cell (i := 0) rfl rfl) (ldI_of (g4.cell (i := 0) rfl rfl) (ldI_of (g4.cell (i := 0) rfl rfl) (ldI_of (g4.cell (i := 0) rfl rfl) (ldI_of (g4.cell (i := 0) rfl rfl) (ldI_of (g4.cell (i := 0) rfl rfl) (ldI_of (g4.cell (i := 0) rfl rfl) (ldI_of (g4.cell (i := 0) rfl rfl) (ldI_of (g4.cell (i := 0) rfl rfl) (ldI_of (g4.cell (i := 0) rfl rfl) (ldI_of (g4.cell (i := 0) rfl rfl) (ldI_of (g4.cell (i := 0) rfl rfl) (ldI_of (g4.cell (i := 0) rfl rfl) (ldI_of (g4.cell (i := 0) rfl rfl) (ldI_of (g4.cell (i := 0) rfl rfl) (ldI_of (g4.cell (i := 0) rfl rfl) (?_))))))))))))))))))))))
    refine rNewC (c := c) hg g4 (fun _ H5 g5 => ?_) fun q1 q2 => absurd hbad (by omega)
    (try simp (config := { maxSteps := 3000000 }) only [asI_mk', asB_mk, asP_mk, asA_mk, asM_mk, asSl_mk, asStr_mk, tup2_mk, tup3_mk, agg1_mk, agg2_mk, agg3_mk, agg4_mk, asAggm, unCons_mk, unNil_mk, asTup_mk, extractD0, extractD1, List.toList_toArray, nilP_mk, add_mk, Nat.zero_add, Nat.add_zero, condT, condF, Bool.not_true, Bool.not_false, Option.isNone_some, Option.isNone_none])
    refine knownC g5 fun H6 g6 => ?_
    (try simp (config := { maxSteps := 3000000 }) only [asI_mk', asB_mk, asP_mk, asA_mk, asM_mk, asSl_mk, asStr_mk, tup2_mk, tup3_mk, agg1_mk, agg2_mk, agg3_mk, agg4_mk, asAggm, unCons_mk, unNil_mk, asTup_mk, extractD0, extractD1, List.toList_toArray, nilP_mk, add_mk, Nat.zero_add, Nat.add_zero, condT, condF, Bool.not_true, Bool.not_false, Option.isNone_some, Option.isNone_none])
    exact hK H6 g6.keep
  (try simp (config := { maxSteps := 3000000 }) only [asI_mk', asB_mk, asP_mk, asA_mk, asM_mk, asSl_mk, asStr_mk, tup2_mk, tup3_mk, agg1_mk, agg2_mk, agg3_mk, agg4_mk, asAggm, unCons_mk, unNil_mk, asTup_mk, extractD0, extractD1, List.toList_toArray, nilP_mk, add_mk, Nat.zero_add, Nat.add_zero, condT, condF, Bool.not_true, Bool.not_false, Option.isNone_some, Option.isNone_none])
  have g4 : St H [TrP tb c (newTr node last), Prt.one bc (.cells #[.int .i64 c.a0, .int .i64 c.a1, .int .i64 c.a2, .int .i64 c.a3, .int .i64 c.a4, .int .i64 c.a5, .int .i64 c.a6, .int .i64 c.a7, .int .i64 c.a8, .int .i64 c.a9, .int .i64 c.a10, .int .u64 c.a11, .int .u64 c.a12, .int .u64 c.a13, .int .u64 c.a14, .int .u64 c.a15, .int .u64 c.a16, .int .i64 c.a17, .int .i64 c.a18, .int .i64 c.a19, .int .u64 c.a20, .int .u64 c.a21] ty_api_Config (0, 0)), Prt.one br (.cells #[.int .i64 r.a0, .int .i64 r.a1, .int .i64 r.a2, .int .i64 r.a3, .int .i64 r.a4, .int .i64 r.a5, .int .i64 r.a6, .int .i64 r.a7, .int .i64 r.a8, .int .i64 r.a9, .int .i64 r.a10, .int .i64 r.a11, .int .i64 r.a12, .int .i64 r.a13, .int .i64 r.a14, .int .i64 r.a15, .int .i64 r.a16, .int .i64 r.a17, .int .i64 r.a18, .int .i64 r.a19, .int .u64 r.a20, .int .u64 r.a21] ty_hand_Raw (0, 0))] H4 := g4
  refine ldI_of (g4.cell (i := 1) rfl rfl) (ldI_of (g4.cell (i := 1) rfl rfl) (ldI_of (g4.cell (i := 1) rfl rfl) (ldI_of (g4.cell (i := 1) rfl rfl) (ldI_of (g4.cell (i := 1) rfl rfl) (ldI_of (g4.cell (i := 1) rfl rfl) (ldI_of (g4.cell (i := 1) rfl rfl) (ldI_of (g4.cell (i := 1) rfl rfl) (ldI_of (g4.cell (i := 1) rfl rfl) (ldI_of (g4.cell (i := 1) rfl rfl) (ldI_of (g4.cell (i := 1) rfl rfl) (ldI_of (g4.cell (i := 1) rfl rfl) (ldI_of (g4.cell (i := 1) rfl rfl) (ldI_of (g4.cell (i := 1) rfl rfl) (ldI_of (g4.cell (i := 1) rfl rfl) (ldI_of (g4.cell (i := 1) rfl rfl) (ldI_of (g4.cell (i := 1) rfl rfl) (ldI_of (g4.cell (i := 1) rfl rfl) (ldI_of (g4.cell (i := 1) rfl rfl) (ldI_of (g4.cell (i := 1) rfl rfl) (ldI_of (g4.cell (i := 1) rfl rfl) (ldI_of (g4.cell (i := 1) rfl rfl) (?_))))))))))))))))))))))
  refine rNewC (c := c) hg g4 (fun hbad => absurd hbad (by omega)) fun _ _ rb H5 g5 => ?_
  (try simp (config := { maxSteps := 3000000 }) only [asI_mk', asB_mk, asP_mk, asA_mk, asM_mk, asSl_mk, asStr_mk, tup2_mk, tup3_mk, agg1_mk, agg2_mk, agg3_mk, agg4_mk, asAggm, unCons_mk, unNil_mk, asTup_mk, extractD0, extractD1, List.toList_toArray, nilP_mk, add_mk, Nat.zero_add, Nat.add_zero, condT, condF, Bool.not_true, Bool.not_false, Option.isNone_some, Option.isNone_none])
  refine knownC g5 fun H6 g6 => ?_
  (try simp (config := { maxSteps := 3000000 }) only [asI_mk', asB_mk, asP_mk, asA_mk, asM_mk, asSl_mk, asStr_mk, tup2_mk, tup3_mk, agg1_mk, agg2_mk, agg3_mk, agg4_mk, asAggm, unCons_mk, unNil_mk, asTup_mk, extractD0, extractD1, List.toList_toArray, nilP_mk, add_mk, Nat.zero_add, Nat.add_zero, condT, condF, Bool.not_true, Bool.not_false, Option.isNone_some, Option.isNone_none])
  (try refine bif_neqf rfl ?_)
  (try simp only [Option.isNone, condF])
  refine boxz (c := [.int .i64 0, .int .i64 0, .int .i64 0, .int .u64 0, .int .u64 0, .int .i64 0, .int .i64 0, .int .i64 0, .int .i64 0, .int .u64 0, .slice none 0 0, .int .u64 0, .int .i64 0, .int .u64 0, .int .i64 0, .int .u64 0, .int .i64 0, .int .u64 0, .slice none 0 0]) (vs := [.int .i64 0, .int .i64 0, .int .i64 0, .int .u64 0, .int .u64 0, .int .i64 0, .int .i64 0, .int .i64 0, .int .i64 0, .int .u64 0, .slice none 0 0, .int .u64 0, .int .i64 0, .int .u64 0, .int .i64 0, .int .u64 0, .int .i64 0, .int .u64 0, .slice none 0 0]) g6 rfl fun bo H7 g7 => ?_
  have g7 : St H [Prt.one bo (.cells openQ.cells.toArray ty_api_Msg (0, 0)), RtP rb c (newTr node last), TrP tb c (newTr node last), Prt.one bc (.cells #[.int .i64 c.a0, .int .i64 c.a1, .int .i64 c.a2, .int .i64 c.a3, .int .i64 c.a4, .int .i64 c.a5, .int .i64 c.a6, .int .i64 c.a7, .int .i64 c.a8, .int .i64 c.a9, .int .i64 c.a10, .int .u64 c.a11, .int .u64 c.a12, .int .u64 c.a13, .int .u64 c.a14, .int .u64 c.a15, .int .u64 c.a16, .int .i64 c.a17, .int .i64 c.a18, .int .i64 c.a19, .int .u64 c.a20, .int .u64 c.a21] ty_api_Config (0, 0)), Prt.one br (.cells #[.int .i64 r.a0, .int .i64 r.a1, .int .i64 r.a2, .int .i64 r.a3, .int .i64 r.a4, .int .i64 r.a5, .int .i64 r.a6, .int .i64 r.a7, .int .i64 r.a8, .int .i64 r.a9, .int .i64 r.a10, .int .i64 r.a11, .int .i64 r.a12, .int .i64 r.a13, .int .i64 r.a14, .int .i64 r.a15, .int .i64 r.a16, .int .i64 r.a17, .int .i64 r.a18, .int .i64 r.a19, .int .u64 r.a20, .int .u64 r.a21] ty_hand_Raw (0, 0))] H7 := g7
  clear g1 g2 g3 g4 g5 g6
  refine ⟨fun _ i H' => ∃ (k : Nat) (t : Tr) (q : Qn), i = k ∧ k ≤ sl ∧ Tin c.a0 t ∧ St H [Prt.one bo (.cells q.cells.toArray ty_api_Msg (0, 0)), RtP rb c t, TrP tb c t, Prt.one bc (.cells #[.int .i64 c.a0, .int .i64 c.a1, .int .i64 c.a2, .int .i64 c.a3, .int .i64 c.a4, .int .i64 c.a5, .int .i64 c.a6, .int .i64 c.a7, .int .i64 c.a8, .int .i64 c.a9, .int .i64 c.a10, .int .u64 c.a11, .int .u64 c.a12, .int .u64 c.a13, .int .u64 c.a14, .int .u64 c.a15, .int .u64 c.a16, .int .i64 c.a17, .int .i64 c.a18, .int .i64 c.a19, .int .u64 c.a20, .int .u64 c.a21] ty_api_Config (0, 0)), Prt.one br (.cells #[.int .i64 r.a0, .int .i64 r.a1, .int .i64 r.a2, .int .i64 r.a3, .int .i64 r.a4, .int .i64 r.a5, .int .i64 r.a6, .int .i64 r.a7, .int .i64 r.a8, .int .i64 r.a9, .int .i64 r.a10, .int .i64 r.a11, .int .i64 r.a12, .int .i64 r.a13, .int .i64 r.a14, .int .i64 r.a15, .int .i64 r.a16, .int .i64 r.a17, .int .i64 r.a18, .int .i64 r.a19, .int .u64 r.a20, .int .u64 r.a21] ty_hand_Raw (0, 0))] H', fun _ i _ => ((sl : Int) - i).toNat, ⟨0, _, openQ, rfl, by omega, newTr_in q1 ⟨hlast, q2⟩, g7⟩, ?_⟩
  clear g7 q1 q2
  rintro now i H' ⟨k, t, q, rfl, hk, ht, g⟩
  by_cases hkl : (k : Int) < (sl : Int)
  rotate_left
  · exact bif_neg hkl (hK H' g.keep)
  refine bif_pos hkl ?_
  by_cases hk2 : (k : Int) < 200
  rotate_left
  · exact bif_neg hk2 (hK H' g.keep)
  refine bif_pos hk2 ?_
  have hll : l.length = sl := by
    have := hl.1
    rw [cel_len Stp.len] at this
    exact Nat.eq_of_mul_eq_mul_right (show 0 < 26 by decide) this
  refine idxS Stp.len noStp (g.rd hl) (by omega) (by omega) hkl fun b o _ _ hcell => ?_
  rw [Int.toNat_natCast] at hcell ⊢
  have hx : (l.getD k noStp).good H := by
    rw [List.getD_eq_getElem?_getD, List.getElem?_eq_getElem (by omega)]
    exact hgood _ (List.getElem_mem _)
  generalize l.getD k noStp = x at hcell hx
  refine ldI_of (hcell 0 (by decide)) (ldI_of (hcell 1 (by decide)) (ldI_of (hcell 2 (by decide)) (ldI_of (hcell 3 (by decide)) (ldI_of (hcell 4 (by decide)) (ldSl_of (hcell 5 (by decide)) (ldB_of (hcell 6 (by decide)) (ldI_of (hcell 7 (by decide)) (ldI_of (hcell 8 (by decide)) (ldI_of (hcell 9 (by decide)) (ldI_of (hcell 10 (by decide)) (ldI_of (hcell 11 (by decide)) (ldI_of (hcell 12 (by decide)) (ldI_of (hcell 13 (by decide)) (ldI_of (hcell 14 (by decide)) (ldI_of (hcell 15 (by decide)) (ldI_of (hcell 16 (by decide)) (ldSl_of (hcell 17 (by decide)) (ldI_of (hcell 18 (by decide)) (ldI_of (hcell 19 (by decide)) (ldI_of (hcell 20 (by decide)) (ldI_of (hcell 21 (by decide)) (ldI_of (hcell 22 (by decide)) (ldI_of (hcell 23 (by decide)) (ldI_of (hcell 24 (by decide)) (ldSl_of (hcell 25 (by decide)) (?_))))))))))))))))))))))))))
  clear hcell
  refine boxz (c := [.int .i64 0, .int .i64 0, .int .i64 0, .int .u64 0, .int .u64 0, .slice none 0 0, .bool false, .int .i64 0, .int .i64 0, .int .i64 0, .int .u64 0, .int .u64 0, .int .i64 0, .int .i64 0, .int .i64 0, .int .i64 0, .int .u64 0, .slice none 0 0, .int .u64 0, .int .i64 0, .int .u64 0, .int .i64 0, .int .u64 0, .int .i64 0, .int .u64 0, .slice none 0 0]) (vs := x.cells) g rfl fun bx H8 g8 => ?_
  have g8 : St H [Prt.one bx (.cells x.cells.toArray ty_law23_Step (0, 0)), Prt.one bo (.cells q.cells.toArray ty_api_Msg (0, 0)), RtP rb c t, TrP tb c t, Prt.one bc (.cells #[.int .i64 c.a0, .int .i64 c.a1, .int .i64 c.a2, .int .i64 c.a3, .int .i64 c.a4, .int .i64 c.a5, .int .i64 c.a6, .int .i64 c.a7, .int .i64 c.a8, .int .i64 c.a9, .int .i64 c.a10, .int .u64 c.a11, .int .u64 c.a12, .int .u64 c.a13, .int .u64 c.a14, .int .u64 c.a15, .int .u64 c.a16, .int .i64 c.a17, .int .i64 c.a18, .int .i64 c.a19, .int .u64 c.a20, .int .u64 c.a21] ty_api_Config (0, 0)), Prt.one br (.cells #[.int .i64 r.a0, .int .i64 r.a1, .int .i64 r.a2, .int .i64 r.a3, .int .i64 r.a4, .int .i64 r.a5, .int .i64 r.a6, .int .i64 r.a7, .int .i64 r.a8, .int .i64 r.a9, .int .i64 r.a10, .int .i64 r.a11, .int .i64 r.a12, .int .i64 r.a13, .int .i64 r.a14, .int .i64 r.a15, .int .i64 r.a16, .int .i64 r.a17, .int .i64 r.a18, .int .i64 r.a19, .int .u64 r.a20, .int .u64 r.a21] ty_hand_Raw (0, 0))] H8 := g8
  clear g
  refine ldI_of (g8.cell (i := 0) rfl rfl) (ldI_of (g8.cell (i := 4) rfl rfl) ⟨by rw [wrap_u64' (by omega) (by omega)]; omega, ?_⟩)
  (try simp (config := { maxSteps := 3000000 }) only [asI_mk', asB_mk, asP_mk, asA_mk, asM_mk, asSl_mk, asStr_mk, tup2_mk, tup3_mk, agg1_mk, agg2_mk, agg3_mk, agg4_mk, asAggm, unCons_mk, unNil_mk, asTup_mk, extractD0, extractD1, List.toList_toArray, nilP_mk, add_mk, Nat.zero_add, Nat.add_zero, condT, condF, Bool.not_true, Bool.not_false, Option.isNone_some, Option.isNone_none])
  generalize IntKind.u64.wrap (now + Int.tmod x.n (IntKind.u64.wrap (2 * c.a15))) = nw
  intro R290 hR290
  have hQ290 : ∀ (t : Tr) (q : Qn) H', Tin c.a0 t → St H [Prt.one bx (.cells x.cells.toArray ty_law23_Step (0, 0)), Prt.one bo (.cells q.cells.toArray ty_api_Msg (0, 0)), RtP rb c t, TrP tb c t, Prt.one bc (.cells #[.int .i64 c.a0, .int .i64 c.a1, .int .i64 c.a2, .int .i64 c.a3, .int .i64 c.a4, .int .i64 c.a5, .int .i64 c.a6, .int .i64 c.a7, .int .i64 c.a8, .int .i64 c.a9, .int .i64 c.a10, .int .u64 c.a11, .int .u64 c.a12, .int .u64 c.a13, .int .u64 c.a14, .int .u64 c.a15, .int .u64 c.a16, .int .i64 c.a17, .int .i64 c.a18, .int .i64 c.a19, .int .u64 c.a20, .int .u64 c.a21] ty_api_Config (0, 0)), Prt.one br (.cells #[.int .i64 r.a0, .int .i64 r.a1, .int .i64 r.a2, .int .i64 r.a3, .int .i64 r.a4, .int .i64 r.a5, .int .i64 r.a6, .int .i64 r.a7, .int .i64 r.a8, .int .i64 r.a9, .int .i64 r.a10, .int .i64 r.a11, .int .i64 r.a12, .int .i64 r.a13, .int .i64 r.a14, .int .i64 r.a15, .int .i64 r.a16, .int .i64 r.a17, .int .i64 r.a18, .int .i64 r.a19, .int .u64 r.a20, .int .u64 r.a21] ty_hand_Raw (0, 0))] H' → R290 true H' := by
    intro t q H' ht g
    refine hR290 true H' ?_
    clear hR290
    refine trCountC g (k := 3) rfl ?_
    (try simp (config := { maxSteps := 3000000 }) only [asI_mk', asB_mk, asP_mk, asA_mk, asM_mk, asSl_mk, asStr_mk, tup2_mk, tup3_mk, agg1_mk, agg2_mk, agg3_mk, agg4_mk, asAggm, unCons_mk, unNil_mk, asTup_mk, extractD0, extractD1, List.toList_toArray, nilP_mk, add_mk, Nat.zero_add, Nat.add_zero, condT, condF, Bool.not_true, Bool.not_false, Option.isNone_some, Option.isNone_none])
    obtain ⟨x2, M, g2, ho, hr, hot, shut⟩ := rtTake g (k := 2) rfl
    refine ldI_of (g2.cell (i := 0) rfl rfl) (trStateC g (k := 3) rfl ?_)
    (try simp (config := { maxSteps := 3000000 }) only [asI_mk', asB_mk, asP_mk, asA_mk, asM_mk, asSl_mk, asStr_mk, tup2_mk, tup3_mk, agg1_mk, agg2_mk, agg3_mk, agg4_mk, asAggm, unCons_mk, unNil_mk, asTup_mk, extractD0, extractD1, List.toList_toArray, nilP_mk, add_mk, Nat.zero_add, Nat.add_zero, condT, condF, Bool.not_true, Bool.not_false, Option.isNone_some, Option.isNone_none])
    refine ⟨ldI_of (g2.cell (i := 0) rfl rfl) rfl, ?_⟩
    refine bif_neqf rfl (ldI_of (g2.cell (i := 0) rfl rfl) (bif_neqf rfl (ldI_of (g2.cell (i := 0) rfl rfl) (bif_neqf rfl (ldSl_of (g2.cell (i := 0) rfl rfl) ?_)))))
    refine trItemsC g2 (k := 9) (show (rtRaw rb c t x2 True ++ M)[9]? = _ from hot 3 _ rfl (by decide)) fun p1 c1 H2 g3 => ?_
    (try simp (config := { maxSteps := 3000000 }) only [asI_mk', asB_mk, asP_mk, asA_mk, asM_mk, asSl_mk, asStr_mk, tup2_mk, tup3_mk, agg1_mk, agg2_mk, agg3_mk, agg4_mk, asAggm, unCons_mk, unNil_mk, asTup_mk, extractD0, extractD1, List.toList_toArray, nilP_mk, add_mk, Nat.zero_add, Nat.add_zero, condT, condF, Bool.not_true, Bool.not_false, Option.isNone_some, Option.isNone_none])
    refine ⟨ldSl_of (g3.cell (i := 1) rfl rfl) rfl, ?_⟩
    refine itemsC (g3.row_rd (i := 0) rfl) (g3.row_rd (i := 2) rfl) rfl rfl ht.ok.items ?_
    (try simp (config := { maxSteps := 3000000 }) only [asI_mk', asB_mk, asP_mk, asA_mk, asM_mk, asSl_mk, asStr_mk, tup2_mk, tup3_mk, agg1_mk, agg2_mk, agg3_mk, agg4_mk, asAggm, unCons_mk, unNil_mk, asTup_mk, extractD0, extractD1, List.toList_toArray, nilP_mk, add_mk, Nat.zero_add, Nat.add_zero, condT, condF, Bool.not_true, Bool.not_false, Option.isNone_some, Option.isNone_none])
    have g4 := shut [] t x2 H2 ho hr (St.less g3)
    have g4 : St H [Prt.one bx (.cells x.cells.toArray ty_law23_Step (0, 0)), Prt.one bo (.cells q.cells.toArray ty_api_Msg (0, 0)), RtP rb c t, TrP tb c t, Prt.one bc (.cells #[.int .i64 c.a0, .int .i64 c.a1, .int .i64 c.a2, .int .i64 c.a3, .int .i64 c.a4, .int .i64 c.a5, .int .i64 c.a6, .int .i64 c.a7, .int .i64 c.a8, .int .i64 c.a9, .int .i64 c.a10, .int .u64 c.a11, .int .u64 c.a12, .int .u64 c.a13, .int .u64 c.a14, .int .u64 c.a15, .int .u64 c.a16, .int .i64 c.a17, .int .i64 c.a18, .int .i64 c.a19, .int .u64 c.a20, .int .u64 c.a21] ty_api_Config (0, 0)), Prt.one br (.cells #[.int .i64 r.a0, .int .i64 r.a1, .int .i64 r.a2, .int .i64 r.a3, .int .i64 r.a4, .int .i64 r.a5, .int .i64 r.a6, .int .i64 r.a7, .int .i64 r.a8, .int .i64 r.a9, .int .i64 r.a10, .int .i64 r.a11, .int .i64 r.a12, .int .i64 r.a13, .int .i64 r.a14, .int .i64 r.a15, .int .i64 r.a16, .int .i64 r.a17, .int .i64 r.a18, .int .i64 r.a19, .int .u64 r.a20, .int .u64 r.a21] ty_hand_Raw (0, 0))] H2 := g4
    rw [wrap_i64 (by omega) (by omega)]
    exact ⟨⟨k + 1, t, q, by omega, by omega, ht, g4.less⟩, by (try dsimp only); omega⟩
  clear hR290
  refine ldI_of (g8.cell (i := 0) rfl rfl) (Pick_ok (by decide) (by decide) ?_)
  (try simp (config := { maxSteps := 3000000 }) only [asI_mk', asB_mk, asP_mk, asA_mk, asM_mk, asSl_mk, asStr_mk, tup2_mk, tup3_mk, agg1_mk, agg2_mk, agg3_mk, agg4_mk, asAggm, unCons_mk, unNil_mk, asTup_mk, extractD0, extractD1, List.toList_toArray, nilP_mk, add_mk, Nat.zero_add, Nat.add_zero, condT, condF, Bool.not_true, Bool.not_false, Option.isNone_some, Option.isNone_none])
  by_cases w1 : pick x.what 9 < 2
  · refine bif_pos w1 ?_
    cases ha : t.asks nw
    · refine trStepC g8 (k := 3) rfl (fun _ H9 g9 => ?_) (fun h => by rw [ha] at h; cases h)
      (try simp (config := { maxSteps := 3000000 }) only [asI_mk', asB_mk, asP_mk, asA_mk, asM_mk, asSl_mk, asStr_mk, tup2_mk, tup3_mk, agg1_mk, agg2_mk, agg3_mk, agg4_mk, asAggm, unCons_mk, unNil_mk, asTup_mk, extractD0, extractD1, List.toList_toArray, nilP_mk, add_mk, Nat.zero_add, Nat.add_zero, condT, condF, Bool.not_true, Bool.not_false, Option.isNone_some, Option.isNone_none])
      refine boxz (c := [.int .i64 0, .int .i64 0, .int .i64 0, .int .u64 0, .int .u64 0, .int .i64 0, .int .i64 0, .int .i64 0, .int .i64 0, .int .u64 0, .slice none 0 0, .int .u64 0, .int .i64 0, .int .u64 0, .int .i64 0, .int .u64 0, .int .i64 0, .int .u64 0, .slice none 0 0]) (vs := [.int .i64 0, .int .i64 0, .int .i64 0, .int .u64 0, .int .u64 0, .int .i64 0, .int .i64 0, .int .i64 0, .int .i64 0, .int .u64 0, .slice none 0 0, .int .u64 0, .int .i64 0, .int .u64 0, .int .i64 0, .int .u64 0, .int .i64 0, .int .u64 0, .slice none 0 0]) g9 rfl fun ba H10 g10 => ?_
      refine rStepC g10 (k := 3) rfl hn12 ht.wait (by omega) (fun _ H11 g11 => ?_) (fun h => by rw [ha] at h; cases h)
      (try simp (config := { maxSteps := 3000000 }) only [asI_mk', asB_mk, asP_mk, asA_mk, asM_mk, asSl_mk, asStr_mk, tup2_mk, tup3_mk, agg1_mk, agg2_mk, agg3_mk, agg4_mk, asAggm, unCons_mk, unNil_mk, asTup_mk, extractD0, extractD1, List.toList_toArray, nilP_mk, add_mk, Nat.zero_add, Nat.add_zero, condT, condF, Bool.not_true, Bool.not_false, Option.isNone_some, Option.isNone_none])
      refine boxz (c := [.int .i64 0, .int .i64 0, .int .i64 0, .int .u64 0, .int .u64 0, .int .i64 0, .int .i64 0, .int .i64 0, .int .i64 0, .int .u64 0, .slice none 0 0, .int .u64 0, .int .i64 0, .int .u64 0, .int .i64 0, .int .u64 0, .int .i64 0, .int .u64 0, .slice none 0 0]) (vs := [.int .i64 0, .int .i64 0, .int .i64 0, .int .u64 0, .int .u64 0, .int .i64 0, .int .i64 0, .int .i64 0, .int .i64 0, .int .u64 0, .slice none 0 0, .int .u64 0, .int .i64 0, .int .u64 0, .int .i64 0, .int .u64 0, .int .i64 0, .int .u64 0, .slice none 0 0]) g11 rfl fun bb H12 g12 => ?_
      have g12 : St H [Prt.one bb (.cells openQ.cells.toArray ty_api_Msg (0, 0)), Prt.one ba (.cells openQ.cells.toArray ty_api_Msg (0, 0)), Prt.one bx (.cells x.cells.toArray ty_law23_Step (0, 0)), Prt.one bo (.cells q.cells.toArray ty_api_Msg (0, 0)), RtP rb c t, TrP tb c t, Prt.one bc (.cells #[.int .i64 c.a0, .int .i64 c.a1, .int .i64 c.a2, .int .i64 c.a3, .int .i64 c.a4, .int .i64 c.a5, .int .i64 c.a6, .int .i64 c.a7, .int .i64 c.a8, .int .i64 c.a9, .int .i64 c.a10, .int .u64 c.a11, .int .u64 c.a12, .int .u64 c.a13, .int .u64 c.a14, .int .u64 c.a15, .int .u64 c.a16, .int .i64 c.a17, .int .i64 c.a18, .int .i64 c.a19, .int .u64 c.a20, .int .u64 c.a21] ty_api_Config (0, 0)), Prt.one br (.cells #[.int .i64 r.a0, .int .i64 r.a1, .int .i64 r.a2, .int .i64 r.a3, .int .i64 r.a4, .int .i64 r.a5, .int .i64 r.a6, .int .i64 r.a7, .int .i64 r.a8, .int .i64 r.a9, .int .i64 r.a10, .int .i64 r.a11, .int .i64 r.a12, .int .i64 r.a13, .int .i64 r.a14, .int .i64 r.a15, .int .i64 r.a16, .int .i64 r.a17, .int .i64 r.a18, .int .i64 r.a19, .int .u64 r.a20, .int .u64 r.a21] ty_hand_Raw (0, 0))] H12 := g12
      clear g8 g9 g10 g11
      intro R504 hR504
      have hQ504 : ∀ H', St H [Prt.one bb (.cells openQ.cells.toArray ty_api_Msg (0, 0)), Prt.one ba (.cells openQ.cells.toArray ty_api_Msg (0, 0)), Prt.one bx (.cells x.cells.toArray ty_law23_Step (0, 0)), Prt.one bo (.cells q.cells.toArray ty_api_Msg (0, 0)), RtP rb c t, TrP tb c t, Prt.one bc (.cells #[.int .i64 c.a0, .int .i64 c.a1, .int .i64 c.a2, .int .i64 c.a3, .int .i64 c.a4, .int .i64 c.a5, .int .i64 c.a6, .int .i64 c.a7, .int .i64 c.a8, .int .i64 c.a9, .int .i64 c.a10, .int .u64 c.a11, .int .u64 c.a12, .int .u64 c.a13, .int .u64 c.a14, .int .u64 c.a15, .int .u64 c.a16, .int .i64 c.a17, .int .i64 c.a18, .int .i64 c.a19, .int .u64 c.a20, .int .u64 c.a21] ty_api_Config (0, 0)), Prt.one br (.cells #[.int .i64 r.a0, .int .i64 r.a1, .int .i64 r.a2, .int .i64 r.a3, .int .i64 r.a4, .int .i64 r.a5, .int .i64 r.a6, .int .i64 r.a7, .int .i64 r.a8, .int .i64 r.a9, .int .i64 r.a10, .int .i64 r.a11, .int .i64 r.a12, .int .i64 r.a13, .int .i64 r.a14, .int .i64 r.a15, .int .i64 r.a16, .int .i64 r.a17, .int .i64 r.a18, .int .i64 r.a19, .int .u64 r.a20, .int .u64 r.a21] ty_hand_Raw (0, 0))] H' → R504 true H' := fun H' g => by
        refine hR504 true H' ?_
        (try simp (config := { maxSteps := 3000000 }) only [asI_mk', asB_mk, asP_mk, asA_mk, asM_mk, asSl_mk, asStr_mk, tup2_mk, tup3_mk, agg1_mk, agg2_mk, agg3_mk, agg4_mk, asAggm, unCons_mk, unNil_mk, asTup_mk, extractD0, extractD1, List.toList_toArray, nilP_mk, add_mk, Nat.zero_add, Nat.add_zero, condT, condF, Bool.not_true, Bool.not_false, Option.isNone_some, Option.isNone_none])
        exact hQ290 t q H' ht (St.lesses (M := [_, _]) g)
      clear hR504
      (try simp (config := { maxSteps := 3000000 }) only [asI_mk', asB_mk, asP_mk, asA_mk, asM_mk, asSl_mk, asStr_mk, tup2_mk, tup3_mk, agg1_mk, agg2_mk, agg3_mk, agg4_mk, asAggm, unCons_mk, unNil_mk, asTup_mk, extractD0, extractD1, List.toList_toArray, nilP_mk, add_mk, Nat.zero_add, Nat.add_zero, condT, condF, Bool.not_true, Bool.not_false, Option.isNone_some, Option.isNone_none])
      refine ldI_of (g12.cell (i := 1) rfl rfl) (ldI_of (g12.cell (i := 1) rfl rfl) (ldI_of (g12.cell (i := 1) rfl rfl) (ldI_of (g12.cell (i := 1) rfl rfl) (ldI_of (g12.cell (i := 1) rfl rfl) (ldI_of (g12.cell (i := 1) rfl rfl) (ldI_of (g12.cell (i := 1) rfl rfl) (ldI_of (g12.cell (i := 1) rfl rfl) (ldI_of (g12.cell (i := 1) rfl rfl) (ldI_of (g12.cell (i := 1) rfl rfl) (ldSl_of (g12.cell (i := 1) rfl rfl) (ldI_of (g12.cell (i := 1) rfl rfl) (ldI_of (g12.cell (i := 1) rfl rfl) (ldI_of (g12.cell (i := 1) rfl rfl) (ldI_of (g12.cell (i := 1) rfl rfl) (ldI_of (g12.cell (i := 1) rfl rfl) (ldI_of (g12.cell (i := 1) rfl rfl) (ldI_of (g12.cell (i := 1) rfl rfl) (ldSl_of (g12.cell (i := 1) rfl rfl) (ldI_of (g12.cell (i := 0) rfl rfl) (ldI_of (g12.cell (i := 0) rfl rfl) (ldI_of (g12.cell (i := 0) rfl rfl) (ldI_of (g12.cell (i := 0) rfl rfl) (ldI_of (g12.cell (i := 0) rfl rfl) (ldI_of (g12.cell (i := 0) rfl rfl) (ldI_of (g12.cell (i := 0) rfl rfl) (ldI_of (g12.cell (i := 0) rfl rfl) (ldI_of (g12.cell (i := 0) rfl rfl) (ldI_of (g12.cell (i := 0) rfl rfl) (ldSl_of (g12.cell (i := 0) rfl rfl) (ldI_of (g12.cell (i := 0) rfl rfl) (ldI_of (g12.cell (i := 0) rfl rfl) (ldI_of (g12.cell (i := 0) rfl rfl) (ldI_of (g12.cell (i := 0) rfl rfl) (ldI_of (g12.cell (i := 0) rfl rfl) (ldI_of (g12.cell (i := 0) rfl rfl) (ldI_of (g12.cell (i := 0) rfl rfl) (ldSl_of (g12.cell (i := 0) rfl rfl) (?_))))))))))))))))))))))))))))))))))))))
      refine sameC (q := openQ) g12 fun H13 g13 => ?_
      (try simp (config := { maxSteps := 3000000 }) only [asI_mk', asB_mk, asP_mk, asA_mk, asM_mk, asSl_mk, asStr_mk, tup2_mk, tup3_mk, agg1_mk, agg2_mk, agg3_mk, agg4_mk, asAggm, unCons_mk, unNil_mk, asTup_mk, extractD0, extractD1, List.toList_toArray, nilP_mk, add_mk, Nat.zero_add, Nat.add_zero, condT, condF, Bool.not_true, Bool.not_false, Option.isNone_some, Option.isNone_none])
      exact hQ504 H13 g13
    · refine trStepC g8 (k := 3) rfl (fun h => by rw [ha] at h; cases h) (fun _ H9 g9 => ?_)
      have g9 : St H [Prt.one bx (.cells x.cells.toArray ty_law23_Step (0, 0)), Prt.one bo (.cells q.cells.toArray ty_api_Msg (0, 0)), RtP rb c t, TrP tb c (t.told c.a14 c.a15 nw), Prt.one bc (.cells #[.int .i64 c.a0, .int .i64 c.a1, .int .i64 c.a2, .int .i64 c.a3, .int .i64 c.a4, .int .i64 c.a5, .int .i64 c.a6, .int .i64 c.a7, .int .i64 c.a8, .int .i64 c.a9, .int .i64 c.a10, .int .u64 c.a11, .int .u64 c.a12, .int .u64 c.a13, .int .u64 c.a14, .int .u64 c.a15, .int .u64 c.a16, .int .i64 c.a17, .int .i64 c.a18, .int .i64 c.a19, .int .u64 c.a20, .int .u64 c.a21] ty_api_Config (0, 0)), Prt.one br (.cells #[.int .i64 r.a0, .int .i64 r.a1, .int .i64 r.a2, .int .i64 r.a3, .int .i64 r.a4, .int .i64 r.a5, .int .i64 r.a6, .int .i64 r.a7, .int .i64 r.a8, .int .i64 r.a9, .int .i64 r.a10, .int .i64 r.a11, .int .i64 r.a12, .int .i64 r.a13, .int .i64 r.a14, .int .i64 r.a15, .int .i64 r.a16, .int .i64 r.a17, .int .i64 r.a18, .int .i64 r.a19, .int .u64 r.a20, .int .u64 r.a21] ty_hand_Raw (0, 0))] H9 := g9
      unfold Qn.val
      (try simp (config := { maxSteps := 3000000 }) only [asI_mk', asB_mk, asP_mk, asA_mk, asM_mk, asSl_mk, asStr_mk, tup2_mk, tup3_mk, agg1_mk, agg2_mk, agg3_mk, agg4_mk, asAggm, unCons_mk, unNil_mk, asTup_mk, extractD0, extractD1, List.toList_toArray, nilP_mk, add_mk, Nat.zero_add, Nat.add_zero, condT, condF, Bool.not_true, Bool.not_false, Option.isNone_some, Option.isNone_none])
      refine boxz (c := [.int .i64 0, .int .i64 0, .int .i64 0, .int .u64 0, .int .u64 0, .int .i64 0, .int .i64 0, .int .i64 0, .int .i64 0, .int .u64 0, .slice none 0 0, .int .u64 0, .int .i64 0, .int .u64 0, .int .i64 0, .int .u64 0, .int .i64 0, .int .u64 0, .slice none 0 0]) (vs := t.q.cells) g9 rfl fun ba H10 g10 => ?_
      refine rStepC g10 (k := 3) rfl hn12 ht.wait (by omega) (fun h => by rw [ha] at h; cases h) (fun _ H11 g11 => ?_)
      unfold Qn.val
      (try simp (config := { maxSteps := 3000000 }) only [asI_mk', asB_mk, asP_mk, asA_mk, asM_mk, asSl_mk, asStr_mk, tup2_mk, tup3_mk, agg1_mk, agg2_mk, agg3_mk, agg4_mk, asAggm, unCons_mk, unNil_mk, asTup_mk, extractD0, extractD1, List.toList_toArray, nilP_mk, add_mk, Nat.zero_add, Nat.add_zero, condT, condF, Bool.not_true, Bool.not_false, Option.isNone_some, Option.isNone_none])
      refine boxz (c := [.int .i64 0, .int .i64 0, .int .i64 0, .int .u64 0, .int .u64 0, .int .i64 0, .int .i64 0, .int .i64 0, .int .i64 0, .int .u64 0, .slice none 0 0, .int .u64 0, .int .i64 0, .int .u64 0, .int .i64 0, .int .u64 0, .int .i64 0, .int .u64 0, .slice none 0 0]) (vs := t.q.cells) g11 rfl fun bb H12 g12 => ?_
      have g12 : St H [Prt.one bb (.cells t.q.cells.toArray ty_api_Msg (0, 0)), Prt.one ba (.cells t.q.cells.toArray ty_api_Msg (0, 0)), Prt.one bx (.cells x.cells.toArray ty_law23_Step (0, 0)), Prt.one bo (.cells q.cells.toArray ty_api_Msg (0, 0)), RtP rb c (t.told c.a14 c.a15 nw), TrP tb c (t.told c.a14 c.a15 nw), Prt.one bc (.cells #[.int .i64 c.a0, .int .i64 c.a1, .int .i64 c.a2, .int .i64 c.a3, .int .i64 c.a4, .int .i64 c.a5, .int .i64 c.a6, .int .i64 c.a7, .int .i64 c.a8, .int .i64 c.a9, .int .i64 c.a10, .int .u64 c.a11, .int .u64 c.a12, .int .u64 c.a13, .int .u64 c.a14, .int .u64 c.a15, .int .u64 c.a16, .int .i64 c.a17, .int .i64 c.a18, .int .i64 c.a19, .int .u64 c.a20, .int .u64 c.a21] ty_api_Config (0, 0)), Prt.one br (.cells #[.int .i64 r.a0, .int .i64 r.a1, .int .i64 r.a2, .int .i64 r.a3, .int .i64 r.a4, .int .i64 r.a5, .int .i64 r.a6, .int .i64 r.a7, .int .i64 r.a8, .int .i64 r.a9, .int .i64 r.a10, .int .i64 r.a11, .int .i64 r.a12, .int .i64 r.a13, .int .i64 r.a14, .int .i64 r.a15, .int .i64 r.a16, .int .i64 r.a17, .int .i64 r.a18, .int .i64 r.a19, .int .u64 r.a20, .int .u64 r.a21] ty_hand_Raw (0, 0))] H12 := g12
      clear g8 g9 g10 g11
      intro R504 hR504
      have hQ504 : ∀ H', St H [Prt.one bb (.cells t.q.cells.toArray ty_api_Msg (0, 0)), Prt.one ba (.cells t.q.cells.toArray ty_api_Msg (0, 0)), Prt.one bx (.cells x.cells.toArray ty_law23_Step (0, 0)), Prt.one bo (.cells q.cells.toArray ty_api_Msg (0, 0)), RtP rb c (t.told c.a14 c.a15 nw), TrP tb c (t.told c.a14 c.a15 nw), Prt.one bc (.cells #[.int .i64 c.a0, .int .i64 c.a1, .int .i64 c.a2, .int .i64 c.a3, .int .i64 c.a4, .int .i64 c.a5, .int .i64 c.a6, .int .i64 c.a7, .int .i64 c.a8, .int .i64 c.a9, .int .i64 c.a10, .int .u64 c.a11, .int .u64 c.a12, .int .u64 c.a13, .int .u64 c.a14, .int .u64 c.a15, .int .u64 c.a16, .int .i64 c.a17, .int .i64 c.a18, .int .i64 c.a19, .int .u64 c.a20, .int .u64 c.a21] ty_api_Config (0, 0)), Prt.one br (.cells #[.int .i64 r.a0, .int .i64 r.a1, .int .i64 r.a2, .int .i64 r.a3, .int .i64 r.a4, .int .i64 r.a5, .int .i64 r.a6, .int .i64 r.a7, .int .i64 r.a8, .int .i64 r.a9, .int .i64 r.a10, .int .i64 r.a11, .int .i64 r.a12, .int .i64 r.a13, .int .i64 r.a14, .int .i64 r.a15, .int .i64 r.a16, .int .i64 r.a17, .int .i64 r.a18, .int .i64 r.a19, .int .u64 r.a20, .int .u64 r.a21] ty_hand_Raw (0, 0))] H' → R504 true H' := fun H' g => by
        refine hR504 true H' ?_
        (try simp (config := { maxSteps := 3000000 }) only [asI_mk', asB_mk, asP_mk, asA_mk, asM_mk, asSl_mk, asStr_mk, tup2_mk, tup3_mk, agg1_mk, agg2_mk, agg3_mk, agg4_mk, asAggm, unCons_mk, unNil_mk, asTup_mk, extractD0, extractD1, List.toList_toArray, nilP_mk, add_mk, Nat.zero_add, Nat.add_zero, condT, condF, Bool.not_true, Bool.not_false, Option.isNone_some, Option.isNone_none])
        refine ldI_of (g.cell (i := 0) rfl rfl) (ldI_of (g.cell (i := 0) rfl rfl) (ldI_of (g.cell (i := 0) rfl rfl) (ldI_of (g.cell (i := 0) rfl rfl) (ldI_of (g.cell (i := 0) rfl rfl) (ldI_of (g.cell (i := 0) rfl rfl) (ldI_of (g.cell (i := 0) rfl rfl) (ldI_of (g.cell (i := 0) rfl rfl) (ldI_of (g.cell (i := 0) rfl rfl) (ldI_of (g.cell (i := 0) rfl rfl) (ldSl_of (g.cell (i := 0) rfl rfl) (ldI_of (g.cell (i := 0) rfl rfl) (ldI_of (g.cell (i := 0) rfl rfl) (ldI_of (g.cell (i := 0) rfl rfl) (ldI_of (g.cell (i := 0) rfl rfl) (ldI_of (g.cell (i := 0) rfl rfl) (ldI_of (g.cell (i := 0) rfl rfl) (ldI_of (g.cell (i := 0) rfl rfl) (ldSl_of (g.cell (i := 0) rfl rfl) (?_)))))))))))))))))))
        refine stz_of (b := bo) (vs := t.q.cells) (o := 0) ?_
        refine St.sets (i := 3) (o := 0) (vs := t.q.cells) g rfl (by simp [Qn.cells]) fun H6 g6 => ?_
        rw [setsA_all (by rfl)] at g6
        exact hQ290 _ t.q H6 (ht.told (by omega) (by omega)) (St.lesses (M := [_, _]) g6)
      clear hR504
      (try simp (config := { maxSteps := 3000000 }) only [asI_mk', asB_mk, asP_mk, asA_mk, asM_mk, asSl_mk, asStr_mk, tup2_mk, tup3_mk, agg1_mk, agg2_mk, agg3_mk, agg4_mk, asAggm, unCons_mk, unNil_mk, asTup_mk, extractD0, extractD1, List.toList_toArray, nilP_mk, add_mk, Nat.zero_add, Nat.add_zero, condT, condF, Bool.not_true, Bool.not_false, Option.isNone_some, Option.isNone_none])
      refine ldI_of (g12.cell (i := 1) rfl rfl) (ldI_of (g12.cell (i := 1) rfl rfl) (ldI_of (g12.cell (i := 1) rfl rfl) (ldI_of (g12.cell (i := 1) rfl rfl) (ldI_of (g12.cell (i := 1) rfl rfl) (ldI_of (g12.cell (i := 1) rfl rfl) (ldI_of (g12.cell (i := 1) rfl rfl) (ldI_of (g12.cell (i := 1) rfl rfl) (ldI_of (g12.cell (i := 1) rfl rfl) (ldI_of (g12.cell (i := 1) rfl rfl) (ldSl_of (g12.cell (i := 1) rfl rfl) (ldI_of (g12.cell (i := 1) rfl rfl) (ldI_of (g12.cell (i := 1) rfl rfl) (ldI_of (g12.cell (i := 1) rfl rfl) (ldI_of (g12.cell (i := 1) rfl rfl) (ldI_of (g12.cell (i := 1) rfl rfl) (ldI_of (g12.cell (i := 1) rfl rfl) (ldI_of (g12.cell (i := 1) rfl rfl) (ldSl_of (g12.cell (i := 1) rfl rfl) (ldI_of (g12.cell (i := 0) rfl rfl) (ldI_of (g12.cell (i := 0) rfl rfl) (ldI_of (g12.cell (i := 0) rfl rfl) (ldI_of (g12.cell (i := 0) rfl rfl) (ldI_of (g12.cell (i := 0) rfl rfl) (ldI_of (g12.cell (i := 0) rfl rfl) (ldI_of (g12.cell (i := 0) rfl rfl) (ldI_of (g12.cell (i := 0) rfl rfl) (ldI_of (g12.cell (i := 0) rfl rfl) (ldI_of (g12.cell (i := 0) rfl rfl) (ldSl_of (g12.cell (i := 0) rfl rfl) (ldI_of (g12.cell (i := 0) rfl rfl) (ldI_of (g12.cell (i := 0) rfl rfl) (ldI_of (g12.cell (i := 0) rfl rfl) (ldI_of (g12.cell (i := 0) rfl rfl) (ldI_of (g12.cell (i := 0) rfl rfl) (ldI_of (g12.cell (i := 0) rfl rfl) (ldI_of (g12.cell (i := 0) rfl rfl) (ldSl_of (g12.cell (i := 0) rfl rfl) (?_))))))))))))))))))))))))))))))))))))))
      refine sameC (q := t.q) g12 fun H13 g13 => ?_
      (try simp (config := { maxSteps := 3000000 }) only [asI_mk', asB_mk, asP_mk, asA_mk, asM_mk, asSl_mk, asStr_mk, tup2_mk, tup3_mk, agg1_mk, agg2_mk, agg3_mk, agg4_mk, asAggm, unCons_mk, unNil_mk, asTup_mk, extractD0, extractD1, List.toList_toArray, nilP_mk, add_mk, Nat.zero_add, Nat.add_zero, condT, condF, Bool.not_true, Bool.not_false, Option.isNone_some, Option.isNone_none])
      exact hQ504 H13 g13
  refine bif_neg w1 ?_
  by_cases w2 : pick x.what 9 < 8
  · refine bif_pos w2 ?_
    refine ldI_of (g8.cell (i := 0) rfl rfl) (ldI_of (g8.cell (i := 0) rfl rfl) (ldI_of (g8.cell (i := 0) rfl rfl) (ldI_of (g8.cell (i := 0) rfl rfl) (ldI_of (g8.cell (i := 0) rfl rfl) (ldI_of (g8.cell (i := 0) rfl rfl) (ldI_of (g8.cell (i := 0) rfl rfl) (ldI_of (g8.cell (i := 0) rfl rfl) (ldI_of (g8.cell (i := 0) rfl rfl) (ldI_of (g8.cell (i := 0) rfl rfl) (ldSl_of (g8.cell (i := 0) rfl rfl) (ldI_of (g8.cell (i := 0) rfl rfl) (ldI_of (g8.cell (i := 0) rfl rfl) (ldI_of (g8.cell (i := 0) rfl rfl) (ldI_of (g8.cell (i := 0) rfl rfl) (ldI_of (g8.cell (i := 0) rfl rfl) (ldI_of (g8.cell (i := 0) rfl rfl) (ldI_of (g8.cell (i := 0) rfl rfl) (ldSl_of (g8.cell (i := 0) rfl rfl) (?_)))))))))))))))))))
    refine boxz (c := [.int .i64 0, .int .i64 0, .int .i64 0, .int .u64 0, .int .u64 0, .int .i64 0, .int .i64 0, .int .i64 0, .int .i64 0, .int .u64 0, .slice none 0 0, .int .u64 0, .int .i64 0, .int .u64 0, .int .i64 0, .int .u64 0, .int .i64 0, .int .u64 0, .slice none 0 0]) (vs := x.g.cells) g8 rfl fun bm H9 g9 => ?_
    have g9 : St H [Prt.one bm (.cells x.g.cells.toArray ty_api_Msg (0, 0)), Prt.one bx (.cells x.cells.toArray ty_law23_Step (0, 0)), Prt.one bo (.cells q.cells.toArray ty_api_Msg (0, 0)), RtP rb c t, TrP tb c t, Prt.one bc (.cells #[.int .i64 c.a0, .int .i64 c.a1, .int .i64 c.a2, .int .i64 c.a3, .int .i64 c.a4, .int .i64 c.a5, .int .i64 c.a6, .int .i64 c.a7, .int .i64 c.a8, .int .i64 c.a9, .int .i64 c.a10, .int .u64 c.a11, .int .u64 c.a12, .int .u64 c.a13, .int .u64 c.a14, .int .u64 c.a15, .int .u64 c.a16, .int .i64 c.a17, .int .i64 c.a18, .int .i64 c.a19, .int .u64 c.a20, .int .u64 c.a21] ty_api_Config (0, 0)), Prt.one br (.cells #[.int .i64 r.a0, .int .i64 r.a1, .int .i64 r.a2, .int .i64 r.a3, .int .i64 r.a4, .int .i64 r.a5, .int .i64 r.a6, .int .i64 r.a7, .int .i64 r.a8, .int .i64 r.a9, .int .i64 r.a10, .int .i64 r.a11, .int .i64 r.a12, .int .i64 r.a13, .int .i64 r.a14, .int .i64 r.a15, .int .i64 r.a16, .int .i64 r.a17, .int .i64 r.a18, .int .i64 r.a19, .int .u64 r.a20, .int .u64 r.a21] ty_hand_Raw (0, 0))] H9 := g9
    clear g8
    intro R642 hR642
    have hQ642 : ∀ (A : Prt) (g : Mg) H', (Rd H 1 g.lp g.ll (g.m.list.map (Value.int .u64)) ∨ A = Prt.row 1 g.lp g.ll g.lc (g.m.list.map (Value.int .u64))) → g.ll = g.m.list.length → g.ll * 8 ≤ 140737488351232 → (∀ v ∈ g.m.list, 0 ≤ v ∧ v < 18446744073709551616) → St H [A, Prt.one bm (.cells g.cells.toArray ty_api_Msg (0, 0)), Prt.one bx (.cells x.cells.toArray ty_law23_Step (0, 0)), Prt.one bo (.cells q.cells.toArray ty_api_Msg (0, 0)), RtP rb c t, TrP tb c t, Prt.one bc (.cells #[.int .i64 c.a0, .int .i64 c.a1, .int .i64 c.a2, .int .i64 c.a3, .int .i64 c.a4, .int .i64 c.a5, .int .i64 c.a6, .int .i64 c.a7, .int .i64 c.a8, .int .i64 c.a9, .int .i64 c.a10, .int .u64 c.a11, .int .u64 c.a12, .int .u64 c.a13, .int .u64 c.a14, .int .u64 c.a15, .int .u64 c.a16, .int .i64 c.a17, .int .i64 c.a18, .int .i64 c.a19, .int .u64 c.a20, .int .u64 c.a21] ty_api_Config (0, 0)), Prt.one br (.cells #[.int .i64 r.a0, .int .i64 r.a1, .int .i64 r.a2, .int .i64 r.a3, .int .i64 r.a4, .int .i64 r.a5, .int .i64 r.a6, .int .i64 r.a7, .int .i64 r.a8, .int .i64 r.a9, .int .i64 r.a10, .int .i64 r.a11, .int .i64 r.a12, .int .i64 r.a13, .int .i64 r.a14, .int .i64 r.a15, .int .i64 r.a16, .int .i64 r.a17, .int .i64 r.a18, .int .i64 r.a19, .int .u64 r.a20, .int .u64 r.a21] ty_hand_Raw (0, 0))] H' → R642 H' := by
      intro A y H' hA h1 h2 h3 g
      refine hR642 H' ?_
      clear hR642
      have rdA : ∀ (j : Nat) (L : List Prt) H', St H L H' → L[j]? = some A → Rd H' 1 y.lp y.ll (y.m.list.map (Value.int .u64)) := fun j L H' g' hj => by
        rcases hA with hA | hA
        · exact g'.rd hA
        · rw [hA] at hj
          exact g'.row_rd hj
      (try simp (config := { maxSteps := 3000000 }) only [asI_mk', asB_mk, asP_mk, asA_mk, asM_mk, asSl_mk, asStr_mk, tup2_mk, tup3_mk, agg1_mk, agg2_mk, agg3_mk, agg4_mk, asAggm, unCons_mk, unNil_mk, asTup_mk, extractD0, extractD1, List.toList_toArray, nilP_mk, add_mk, Nat.zero_add, Nat.add_zero, condT, condF, Bool.not_true, Bool.not_false, Option.isNone_some, Option.isNone_none])
      refine ldI_of (g.cell (i := 1) rfl rfl) (ldI_of (g.cell (i := 1) rfl rfl) (ldI_of (g.cell (i := 1) rfl rfl) (ldI_of (g.cell (i := 1) rfl rfl) (ldI_of (g.cell (i := 1) rfl rfl) (ldI_of (g.cell (i := 1) rfl rfl) (ldI_of (g.cell (i := 1) rfl rfl) (ldI_of (g.cell (i := 1) rfl rfl) (ldI_of (g.cell (i := 1) rfl rfl) (ldI_of (g.cell (i := 1) rfl rfl) (ldSl_of (g.cell (i := 1) rfl rfl) (ldI_of (g.cell (i := 1) rfl rfl) (ldI_of (g.cell (i := 1) rfl rfl) (ldI_of (g.cell (i := 1) rfl rfl) (ldI_of (g.cell (i := 1) rfl rfl) (ldI_of (g.cell (i := 1) rfl rfl) (ldI_of (g.cell (i := 1) rfl rfl) (ldI_of (g.cell (i := 1) rfl rfl) (ldSl_of (g.cell (i := 1) rfl rfl) (?_)))))))))))))))))))
      refine boxz (c := [.int .i64 0, .int .i64 0, .int .i64 0, .int .u64 0, .int .u64 0, .int .i64 0, .int .i64 0, .int .i64 0, .int .i64 0, .int .u64 0, .slice none 0 0, .int .u64 0, .int .i64 0, .int .u64 0, .int .i64 0, .int .u64 0, .int .i64 0, .int .u64 0, .slice none 0 0]) (vs := y.cells) g rfl fun bw H9 g9 => ?_
      intro b6 hb6
      have g10 := g9.alloc (o := .cells #[] ty_uint64) hb6
      refine ldSl_of (g10.cell (i := 3) rfl rfl) ?_
      refine g10.copyAll (i := 0) rfl tu_ty_Suint64 tu_ty_Suint64 ti_ty_uint64 rfl (by decide) (by decide) (rdA 2 _ _ g10 rfl) u_one (by omega) fun p' cap' H11 g11 => ?_
      (try simp (config := { maxSteps := 3000000 }) only [asI_mk', asB_mk, asP_mk, asA_mk, asM_mk, asSl_mk, asStr_mk, tup2_mk, tup3_mk, agg1_mk, agg2_mk, agg3_mk, agg4_mk, asAggm, unCons_mk, unNil_mk, asTup_mk, extractD0, extractD1, List.toList_toArray, nilP_mk, add_mk, Nat.zero_add, Nat.add_zero, condT, condF, Bool.not_true, Bool.not_false, Option.isNone_some, Option.isNone_none])
      refine g11.put (i := 1) rfl (show 18 < 19 by decide) fun H12 g12 => ?_
      have g12 : St H [Prt.row 1 p' y.ll cap' (y.m.list.map (Value.int .u64)), Prt.one bw (.cells (Mg.cells { y with lp := p', lc := cap' }).toArray ty_api_Msg (0, 0)), A, Prt.one bm (.cells y.cells.toArray ty_api_Msg (0, 0)), Prt.one bx (.cells x.cells.toArray ty_law23_Step (0, 0)), Prt.one bo (.cells q.cells.toArray ty_api_Msg (0, 0)), RtP rb c t, TrP tb c t, Prt.one bc (.cells #[.int .i64 c.a0, .int .i64 c.a1, .int .i64 c.a2, .int .i64 c.a3, .int .i64 c.a4, .int .i64 c.a5, .int .i64 c.a6, .int .i64 c.a7, .int .i64 c.a8, .int .i64 c.a9, .int .i64 c.a10, .int .u64 c.a11, .int .u64 c.a12, .int .u64 c.a13, .int .u64 c.a14, .int .u64 c.a15, .int .u64 c.a16, .int .i64 c.a17, .int .i64 c.a18, .int .i64 c.a19, .int .u64 c.a20, .int .u64 c.a21] ty_api_Config (0, 0)), Prt.one br (.cells #[.int .i64 r.a0, .int .i64 r.a1, .int .i64 r.a2, .int .i64 r.a3, .int .i64 r.a4, .int .i64 r.a5, .int .i64 r.a6, .int .i64 r.a7, .int .i64 r.a8, .int .i64 r.a9, .int .i64 r.a10, .int .i64 r.a11, .int .i64 r.a12, .int .i64 r.a13, .int .i64 r.a14, .int .i64 r.a15, .int .i64 r.a16, .int .i64 r.a17, .int .i64 r.a18, .int .i64 r.a19, .int .u64 r.a20, .int .u64 r.a21] ty_hand_Raw (0, 0))] H12 := g12
      clear g9 g10 g11 g
      refine ldI_of (g12.cell (i := 1) rfl rfl) (ldI_of (g12.cell (i := 1) rfl rfl) (ldI_of (g12.cell (i := 1) rfl rfl) (ldI_of (g12.cell (i := 1) rfl rfl) (ldI_of (g12.cell (i := 1) rfl rfl) (ldI_of (g12.cell (i := 1) rfl rfl) (ldI_of (g12.cell (i := 1) rfl rfl) (ldI_of (g12.cell (i := 1) rfl rfl) (ldI_of (g12.cell (i := 1) rfl rfl) (ldI_of (g12.cell (i := 1) rfl rfl) (ldSl_of (g12.cell (i := 1) rfl rfl) (ldI_of (g12.cell (i := 1) rfl rfl) (ldI_of (g12.cell (i := 1) rfl rfl) (ldI_of (g12.cell (i := 1) rfl rfl) (ldI_of (g12.cell (i := 1) rfl rfl) (ldI_of (g12.cell (i := 1) rfl rfl) (ldI_of (g12.cell (i := 1) rfl rfl) (ldI_of (g12.cell (i := 1) rfl rfl) (ldSl_of (g12.cell (i := 1) rfl rfl) (ldI_of (g12.cell (i := 3) rfl rfl) (ldI_of (g12.cell (i := 3) rfl rfl) (ldI_of (g12.cell (i := 3) rfl rfl) (ldI_of (g12.cell (i := 3) rfl rfl) (ldI_of (g12.cell (i := 3) rfl rfl) (ldI_of (g12.cell (i := 3) rfl rfl) (ldI_of (g12.cell (i := 3) rfl rfl) (ldI_of (g12.cell (i := 3) rfl rfl) (ldI_of (g12.cell (i := 3) rfl rfl) (ldI_of (g12.cell (i := 3) rfl rfl) (ldSl_of (g12.cell (i := 3) rfl rfl) (ldI_of (g12.cell (i := 3) rfl rfl) (ldI_of (g12.cell (i := 3) rfl rfl) (ldI_of (g12.cell (i := 3) rfl rfl) (ldI_of (g12.cell (i := 3) rfl rfl) (ldI_of (g12.cell (i := 3) rfl rfl) (ldI_of (g12.cell (i := 3) rfl rfl) (ldI_of (g12.cell (i := 3) rfl rfl) (ldSl_of (g12.cell (i := 3) rfl rfl) (?_))))))))))))))))))))))))))))))))))))))
      refine trHearG (m := y.m) g12 (k := 7) rfl hn12 (fun _ _ => ⟨h1, show y.ll ≤ 4611686018427387903 by omega, h3, fun N M H' hot h' => (St.lesses (M := N) h').row_rd (hot 0 _ rfl (by decide))⟩) fun H13 g13 => ?_
      (try simp (config := { maxSteps := 3000000 }) only [asI_mk', asB_mk, asP_mk, asA_mk, asM_mk, asSl_mk, asStr_mk, tup2_mk, tup3_mk, agg1_mk, agg2_mk, agg3_mk, agg4_mk, asAggm, unCons_mk, unNil_mk, asTup_mk, extractD0, extractD1, List.toList_toArray, nilP_mk, add_mk, Nat.zero_add, Nat.add_zero, condT, condF, Bool.not_true, Bool.not_false, Option.isNone_some, Option.isNone_none])
      have g13 : St H [Prt.row 1 p' y.ll cap' (y.m.list.map (Value.int .u64)), Prt.one bw (.cells (Mg.cells { y with lp := p', lc := cap' }).toArray ty_api_Msg (0, 0)), A, Prt.one bm (.cells y.cells.toArray ty_api_Msg (0, 0)), Prt.one bx (.cells x.cells.toArray ty_law23_Step (0, 0)), Prt.one bo (.cells q.cells.toArray ty_api_Msg (0, 0)), RtP rb c t, TrP tb c (t.hear c.a0 y.m), Prt.one bc (.cells #[.int .i64 c.a0, .int .i64 c.a1, .int .i64 c.a2, .int .i64 c.a3, .int .i64 c.a4, .int .i64 c.a5, .int .i64 c.a6, .int .i64 c.a7, .int .i64 c.a8, .int .i64 c.a9, .int .i64 c.a10, .int .u64 c.a11, .int .u64 c.a12, .int .u64 c.a13, .int .u64 c.a14, .int .u64 c.a15, .int .u64 c.a16, .int .i64 c.a17, .int .i64 c.a18, .int .i64 c.a19, .int .u64 c.a20, .int .u64 c.a21] ty_api_Config (0, 0)), Prt.one br (.cells #[.int .i64 r.a0, .int .i64 r.a1, .int .i64 r.a2, .int .i64 r.a3, .int .i64 r.a4, .int .i64 r.a5, .int .i64 r.a6, .int .i64 r.a7, .int .i64 r.a8, .int .i64 r.a9, .int .i64 r.a10, .int .i64 r.a11, .int .i64 r.a12, .int .i64 r.a13, .int .i64 r.a14, .int .i64 r.a15, .int .i64 r.a16, .int .i64 r.a17, .int .i64 r.a18, .int .i64 r.a19, .int .u64 r.a20, .int .u64 r.a21] ty_hand_Raw (0, 0))] H13 := g13
      refine ⟨ldI_of (g13.cell (i := 3) rfl rfl) (ldI_of (g13.cell (i := 3) rfl rfl) (ldI_of (g13.cell (i := 3) rfl rfl) (ldI_of (g13.cell (i := 3) rfl rfl) (ldI_of (g13.cell (i := 3) rfl rfl) (ldI_of (g13.cell (i := 3) rfl rfl) (ldI_of (g13.cell (i := 3) rfl rfl) (ldI_of (g13.cell (i := 3) rfl rfl) (ldI_of (g13.cell (i := 3) rfl rfl) (ldI_of (g13.cell (i := 3) rfl rfl) (ldSl_of (g13.cell (i := 3) rfl rfl) (ldI_of (g13.cell (i := 3) rfl rfl) (ldI_of (g13.cell (i := 3) rfl rfl) (ldI_of (g13.cell (i := 3) rfl rfl) (ldI_of (g13.cell (i := 3) rfl rfl) (ldI_of (g13.cell (i := 3) rfl rfl) (ldI_of (g13.cell (i := 3) rfl rfl) (ldI_of (g13.cell (i := 3) rfl rfl) (ldSl_of (g13.cell (i := 3) rfl rfl) (rfl))))))))))))))))))), ?_⟩
      refine rHearC (m := y.m) g13 (k := 6) rfl hn12 ht.ids (fun _ _ => ⟨h1, show y.ll ≤ 4611686018427387903 by omega, h3, fun N M H' hot h' => rdA 2 M H' (St.lesses (M := N) h') (hot 2 _ rfl (by decide))⟩) fun H14 g14 => ?_
      (try simp (config := { maxSteps := 3000000 }) only [asI_mk', asB_mk, asP_mk, asA_mk, asM_mk, asSl_mk, asStr_mk, tup2_mk, tup3_mk, agg1_mk, agg2_mk, agg3_mk, agg4_mk, asAggm, unCons_mk, unNil_mk, asTup_mk, extractD0, extractD1, List.toList_toArray, nilP_mk, add_mk, Nat.zero_add, Nat.add_zero, condT, condF, Bool.not_true, Bool.not_false, Option.isNone_some, Option.isNone_none])
      have g14 : St H [Prt.row 1 p' y.ll cap' (y.m.list.map (Value.int .u64)), Prt.one bw (.cells (Mg.cells { y with lp := p', lc := cap' }).toArray ty_api_Msg (0, 0)), A, Prt.one bm (.cells y.cells.toArray ty_api_Msg (0, 0)), Prt.one bx (.cells x.cells.toArray ty_law23_Step (0, 0)), Prt.one bo (.cells q.cells.toArray ty_api_Msg (0, 0)), RtP rb c (t.hear c.a0 y.m), TrP tb c (t.hear c.a0 y.m), Prt.one bc (.cells #[.int .i64 c.a0, .int .i64 c.a1, .int .i64 c.a2, .int .i64 c.a3, .int .i64 c.a4, .int .i64 c.a5, .int .i64 c.a6, .int .i64 c.a7, .int .i64 c.a8, .int .i64 c.a9, .int .i64 c.a10, .int .u64 c.a11, .int .u64 c.a12, .int .u64 c.a13, .int .u64 c.a14, .int .u64 c.a15, .int .u64 c.a16, .int .i64 c.a17, .int .i64 c.a18, .int .i64 c.a19, .int .u64 c.a20, .int .u64 c.a21] ty_api_Config (0, 0)), Prt.one br (.cells #[.int .i64 r.a0, .int .i64 r.a1, .int .i64 r.a2, .int .i64 r.a3, .int .i64 r.a4, .int .i64 r.a5, .int .i64 r.a6, .int .i64 r.a7, .int .i64 r.a8, .int .i64 r.a9, .int .i64 r.a10, .int .i64 r.a11, .int .i64 r.a12, .int .i64 r.a13, .int .i64 r.a14, .int .i64 r.a15, .int .i64 r.a16, .int .i64 r.a17, .int .i64 r.a18, .int .i64 r.a19, .int .u64 r.a20, .int .u64 r.a21] ty_hand_Raw (0, 0))] H14 := g14
      rw [beq_self_eq_true]
      (try simp only [condT])
      refine ldSl_of (g14.cell (i := 1) rfl rfl) (ldSl_of (g14.cell (i := 3) rfl rfl) (numbersC (g14.row_rd (i := 0) rfl) (rdA 2 _ _ g14 rfl) (show y.ll ≤ 9223372036854775807 by omega) (show y.ll ≤ 9223372036854775807 by omega) ?_))
      rw [decide_eq_true rfl]
      (try simp (config := { maxSteps := 3000000 }) only [asI_mk', asB_mk, asP_mk, asA_mk, asM_mk, asSl_mk, asStr_mk, tup2_mk, tup3_mk, agg1_mk, agg2_mk, agg3_mk, agg4_mk, asAggm, unCons_mk, unNil_mk, asTup_mk, extractD0, extractD1, List.toList_toArray, nilP_mk, add_mk, Nat.zero_add, Nat.add_zero, condT, condF, Bool.not_true, Bool.not_false, Option.isNone_some, Option.isNone_none])
      exact hQ290 _ q H14 (ht.hear hn12) (St.lesses (M := [_, _, _, _]) g14)
    clear hR642
    (try simp (config := { maxSteps := 3000000 }) only [asI_mk', asB_mk, asP_mk, asA_mk, asM_mk, asSl_mk, asStr_mk, tup2_mk, tup3_mk, agg1_mk, agg2_mk, agg3_mk, agg4_mk, asAggm, unCons_mk, unNil_mk, asTup_mk, extractD0, extractD1, List.toList_toArray, nilP_mk, add_mk, Nat.zero_add, Nat.add_zero, condT, condF, Bool.not_true, Bool.not_false, Option.isNone_some, Option.isNone_none])
    refine ldB_of (g9.cell (i := 1) rfl rfl) ?_
    cases hnear : x.near
    · simp only [condF]
      refine hQ642 (Prt.row 1 none 0 0 []) x.g H9 (.inl hx.rdm) (by have := hx.rdm.1; simpa using this.symm) hx.szm hx.posm ?_
      exact g9.row (H' := _) (Own.nil 1) ((Goes.refl Nothing _).less fun c hc => absurd hc blk_none)
    · simp only [condT]
      refine ldI_of (g9.cell (i := 5) rfl rfl) (ldI_of (g9.cell (i := 5) rfl rfl) (ldI_of (g9.cell (i := 5) rfl rfl) (ldI_of (g9.cell (i := 5) rfl rfl) (ldI_of (g9.cell (i := 5) rfl rfl) (ldI_of (g9.cell (i := 5) rfl rfl) (ldI_of (g9.cell (i := 5) rfl rfl) (ldI_of (g9.cell (i := 5) rfl rfl) (ldI_of (g9.cell (i := 5) rfl rfl) (ldI_of (g9.cell (i := 5) rfl rfl) (ldI_of (g9.cell (i := 5) rfl rfl) (ldI_of (g9.cell (i := 5) rfl rfl) (ldI_of (g9.cell (i := 5) rfl rfl) (ldI_of (g9.cell (i := 5) rfl rfl) (ldI_of (g9.cell (i := 5) rfl rfl) (ldI_of (g9.cell (i := 5) rfl rfl) (ldI_of (g9.cell (i := 5) rfl rfl) (ldI_of (g9.cell (i := 5) rfl rfl) (ldI_of (g9.cell (i := 5) rfl rfl) (ldI_of (g9.cell (i := 5) rfl rfl) (ldI_of (g9.cell (i := 5) rfl rfl) (ldI_of (g9.cell (i := 5) rfl rfl) (ldI_of (g9.cell (i := 2) rfl rfl) (ldI_of (g9.cell (i := 2) rfl rfl) (ldI_of (g9.cell (i := 2) rfl rfl) (ldI_of (g9.cell (i := 2) rfl rfl) (ldI_of (g9.cell (i := 2) rfl rfl) (ldI_of (g9.cell (i := 2) rfl rfl) (ldI_of (g9.cell (i := 2) rfl rfl) (ldI_of (g9.cell (i := 2) rfl rfl) (ldI_of (g9.cell (i := 2) rfl rfl) (ldI_of (g9.cell (i := 2) rfl rfl) (ldSl_of (g9.cell (i := 2) rfl rfl) (ldI_of (g9.cell (i := 2) rfl rfl) (ldI_of (g9.cell (i := 2) rfl rfl) (ldI_of (g9.cell (i := 2) rfl rfl) (ldI_of (g9.cell (i := 2) rfl rfl) (ldI_of (g9.cell (i := 2) rfl rfl) (ldI_of (g9.cell (i := 2) rfl rfl) (ldI_of (g9.cell (i := 2) rfl rfl) (ldSl_of (g9.cell (i := 2) rfl rfl) (ldI_of (g9.cell (i := 1) rfl rfl) (ldI_of (g9.cell (i := 1) rfl rfl) (ldI_of (g9.cell (i := 1) rfl rfl) (ldI_of (g9.cell (i := 1) rfl rfl) (ldI_of (g9.cell (i := 1) rfl rfl) (ldSl_of (g9.cell (i := 1) rfl rfl) (ldB_of (g9.cell (i := 1) rfl rfl) (ldI_of (g9.cell (i := 1) rfl rfl) (ldI_of (g9.cell (i := 1) rfl rfl) (ldI_of (g9.cell (i := 1) rfl rfl) (ldI_of (g9.cell (i := 1) rfl rfl) (ldI_of (g9.cell (i := 1) rfl rfl) (ldI_of (g9.cell (i := 1) rfl rfl) (ldI_of (g9.cell (i := 1) rfl rfl) (ldI_of (g9.cell (i := 1) rfl rfl) (ldI_of (g9.cell (i := 1) rfl rfl) (ldI_of (g9.cell (i := 1) rfl rfl) (ldSl_of (g9.cell (i := 1) rfl rfl) (ldI_of (g9.cell (i := 1) rfl rfl) (ldI_of (g9.cell (i := 1) rfl rfl) (ldI_of (g9.cell (i := 1) rfl rfl) (ldI_of (g9.cell (i := 1) rfl rfl) (ldI_of (g9.cell (i := 1) rfl rfl) (ldI_of (g9.cell (i := 1) rfl rfl) (ldI_of (g9.cell (i := 1) rfl rfl) (ldSl_of (g9.cell (i := 1) rfl rfl) (?_)))))))))))))))))))))))))))))))))))))))))))))))))))))))))))))))))))
      have e : ∀ (b : Bool), b = true → x.near = b → x.val = .agg #[.int .i64 x.what, .int .i64 x.code, .int .i64 x.off, .int .u64 x.stamp, .int .u64 x.n, .slice x.lp x.ll x.lc, .bool b, .int .i64 x.g.m.kind, .int .i64 x.g.m.frm, .int .i64 x.g.m.to, .int .u64 x.g.m.call, .int .u64 x.g.f4, .int .i64 x.g.f5, .int .i64 x.g.f6, .int .i64 x.g.m.item, .int .i64 x.g.f8, .int .u64 x.g.f9, .slice x.g.rp x.g.rl x.g.rc, .int .u64 x.g.f11, .int .i64 x.g.m.code, .int .u64 x.g.f13, .int .i64 x.g.f14, .int .u64 x.g.f15, .int .i64 x.g.f16, .int .u64 x.g.m.stamp, .slice x.g.lp x.g.ll x.g.lc] := fun b _ h => by rw [← h]; rfl
      refine toldC (q := q) (x := x) hx hn12 g9 fun y H10 h1 h2 h3 g10 => ?_
      unfold Mg.val
      (try simp (config := { maxSteps := 3000000 }) only [asI_mk', asB_mk, asP_mk, asA_mk, asM_mk, asSl_mk, asStr_mk, tup2_mk, tup3_mk, agg1_mk, agg2_mk, agg3_mk, agg4_mk, asAggm, unCons_mk, unNil_mk, asTup_mk, extractD0, extractD1, List.toList_toArray, nilP_mk, add_mk, Nat.zero_add, Nat.add_zero, condT, condF, Bool.not_true, Bool.not_false, Option.isNone_some, Option.isNone_none])
      refine stz_of (b := bm) (vs := y.cells) (o := 0) ?_
      refine St.sets (i := 1) (o := 0) (vs := y.cells) g10 rfl (by simp [Mg.cells]) fun H11 g11 => ?_
      rw [setsA_all (by rfl)] at g11
      exact hQ642 _ y H11 (.inr rfl) h1 (by omega) h3 g11
  refine bif_neg w2 ?_
  intro R944 hR944
  have hQ944 : ∀ (by' : Nat) (n s : Int) H', St H [Prt.one by' (.cells #[.int .i64 n, .int .u64 s] ty_api_ID (0, 0)), Prt.one bx (.cells x.cells.toArray ty_law23_Step (0, 0)), Prt.one bo (.cells q.cells.toArray ty_api_Msg (0, 0)), RtP rb c t, TrP tb c t, Prt.one bc (.cells #[.int .i64 c.a0, .int .i64 c.a1, .int .i64 c.a2, .int .i64 c.a3, .int .i64 c.a4, .int .i64 c.a5, .int .i64 c.a6, .int .i64 c.a7, .int .i64 c.a8, .int .i64 c.a9, .int .i64 c.a10, .int .u64 c.a11, .int .u64 c.a12, .int .u64 c.a13, .int .u64 c.a14, .int .u64 c.a15, .int .u64 c.a16, .int .i64 c.a17, .int .i64 c.a18, .int .i64 c.a19, .int .u64 c.a20, .int .u64 c.a21] ty_api_Config (0, 0)), Prt.one br (.cells #[.int .i64 r.a0, .int .i64 r.a1, .int .i64 r.a2, .int .i64 r.a3, .int .i64 r.a4, .int .i64 r.a5, .int .i64 r.a6, .int .i64 r.a7, .int .i64 r.a8, .int .i64 r.a9, .int .i64 r.a10, .int .i64 r.a11, .int .i64 r.a12, .int .i64 r.a13, .int .i64 r.a14, .int .i64 r.a15, .int .i64 r.a16, .int .i64 r.a17, .int .i64 r.a18, .int .i64 r.a19, .int .u64 r.a20, .int .u64 r.a21] ty_hand_Raw (0, 0))] H' → R944 (some ⟨by', 0, none⟩) H' := fun by' n s H' g => by
    refine hR944 _ H' ?_
    clear hR944
    (try simp (config := { maxSteps := 3000000 }) only [asI_mk', asB_mk, asP_mk, asA_mk, asM_mk, asSl_mk, asStr_mk, tup2_mk, tup3_mk, agg1_mk, agg2_mk, agg3_mk, agg4_mk, asAggm, unCons_mk, unNil_mk, asTup_mk, extractD0, extractD1, List.toList_toArray, nilP_mk, add_mk, Nat.zero_add, Nat.add_zero, condT, condF, Bool.not_true, Bool.not_false, Option.isNone_some, Option.isNone_none])
    refine ldI_of (g.cell (i := 0) rfl rfl) (ldI_of (g.cell (i := 0) rfl rfl) (ldI_of (g.cell (i := 0) rfl rfl) (ldI_of (g.cell (i := 0) rfl rfl) ?_)))
    by_cases hb : t.beginE c.a0 n s = 0
    · refine trBeginC g (k := 4) rfl ht.node (fun h => absurd hb h) fun _ H2 g2 => ?_
      have g2 : St H [Prt.one by' (.cells #[.int .i64 n, .int .u64 s] ty_api_ID (0, 0)), Prt.one bx (.cells x.cells.toArray ty_law23_Step (0, 0)), Prt.one bo (.cells q.cells.toArray ty_api_Msg (0, 0)), RtP rb c t, TrP tb c (t.begun n s nw), Prt.one bc (.cells #[.int .i64 c.a0, .int .i64 c.a1, .int .i64 c.a2, .int .i64 c.a3, .int .i64 c.a4, .int .i64 c.a5, .int .i64 c.a6, .int .i64 c.a7, .int .i64 c.a8, .int .i64 c.a9, .int .i64 c.a10, .int .u64 c.a11, .int .u64 c.a12, .int .u64 c.a13, .int .u64 c.a14, .int .u64 c.a15, .int .u64 c.a16, .int .i64 c.a17, .int .i64 c.a18, .int .i64 c.a19, .int .u64 c.a20, .int .u64 c.a21] ty_api_Config (0, 0)), Prt.one br (.cells #[.int .i64 r.a0, .int .i64 r.a1, .int .i64 r.a2, .int .i64 r.a3, .int .i64 r.a4, .int .i64 r.a5, .int .i64 r.a6, .int .i64 r.a7, .int .i64 r.a8, .int .i64 r.a9, .int .i64 r.a10, .int .i64 r.a11, .int .i64 r.a12, .int .i64 r.a13, .int .i64 r.a14, .int .i64 r.a15, .int .i64 r.a16, .int .i64 r.a17, .int .i64 r.a18, .int .i64 r.a19, .int .u64 r.a20, .int .u64 r.a21] ty_hand_Raw (0, 0))] H2 := g2
      (try simp (config := { maxSteps := 3000000 }) only [asI_mk', asB_mk, asP_mk, asA_mk, asM_mk, asSl_mk, asStr_mk, tup2_mk, tup3_mk, agg1_mk, agg2_mk, agg3_mk, agg4_mk, asAggm, unCons_mk, unNil_mk, asTup_mk, extractD0, extractD1, List.toList_toArray, nilP_mk, add_mk, Nat.zero_add, Nat.add_zero, condT, condF, Bool.not_true, Bool.not_false, Option.isNone_some, Option.isNone_none])
      refine ⟨ldI_of (g2.cell (i := 0) rfl rfl) (ldI_of (g2.cell (i := 0) rfl rfl) rfl), ?_⟩
      refine rBeginC g2 (k := 3) rfl ht.node hn12 ht.num.2 (fun h => absurd hb h) fun _ H3 g3 => ?_
      have g3 : St H [Prt.one by' (.cells #[.int .i64 n, .int .u64 s] ty_api_ID (0, 0)), Prt.one bx (.cells x.cells.toArray ty_law23_Step (0, 0)), Prt.one bo (.cells q.cells.toArray ty_api_Msg (0, 0)), RtP rb c (t.begun n s nw), TrP tb c (t.begun n s nw), Prt.one bc (.cells #[.int .i64 c.a0, .int .i64 c.a1, .int .i64 c.a2, .int .i64 c.a3, .int .i64 c.a4, .int .i64 c.a5, .int .i64 c.a6, .int .i64 c.a7, .int .i64 c.a8, .int .i64 c.a9, .int .i64 c.a10, .int .u64 c.a11, .int .u64 c.a12, .int .u64 c.a13, .int .u64 c.a14, .int .u64 c.a15, .int .u64 c.a16, .int .i64 c.a17, .int .i64 c.a18, .int .i64 c.a19, .int .u64 c.a20, .int .u64 c.a21] ty_api_Config (0, 0)), Prt.one br (.cells #[.int .i64 r.a0, .int .i64 r.a1, .int .i64 r.a2, .int .i64 r.a3, .int .i64 r.a4, .int .i64 r.a5, .int .i64 r.a6, .int .i64 r.a7, .int .i64 r.a8, .int .i64 r.a9, .int .i64 r.a10, .int .i64 r.a11, .int .i64 r.a12, .int .i64 r.a13, .int .i64 r.a14, .int .i64 r.a15, .int .i64 r.a16, .int .i64 r.a17, .int .i64 r.a18, .int .i64 r.a19, .int .u64 r.a20, .int .u64 r.a21] ty_hand_Raw (0, 0))] H3 := g3
      (try simp (config := { maxSteps := 3000000 }) only [asI_mk', asB_mk, asP_mk, asA_mk, asM_mk, asSl_mk, asStr_mk, tup2_mk, tup3_mk, agg1_mk, agg2_mk, agg3_mk, agg4_mk, asAggm, unCons_mk, unNil_mk, asTup_mk, extractD0, extractD1, List.toList_toArray, nilP_mk, add_mk, Nat.zero_add, Nat.add_zero, condT, condF, Bool.not_true, Bool.not_false, Option.isNone_some, Option.isNone_none])
      exact hQ290 _ q H3 (ht.begun hn12 hb) g3.less
    · refine trBeginC g (k := 4) rfl ht.node (fun _ H2 g2 => ?_) fun h => absurd h hb
      (try simp (config := { maxSteps := 3000000 }) only [asI_mk', asB_mk, asP_mk, asA_mk, asM_mk, asSl_mk, asStr_mk, tup2_mk, tup3_mk, agg1_mk, agg2_mk, agg3_mk, agg4_mk, asAggm, unCons_mk, unNil_mk, asTup_mk, extractD0, extractD1, List.toList_toArray, nilP_mk, add_mk, Nat.zero_add, Nat.add_zero, condT, condF, Bool.not_true, Bool.not_false, Option.isNone_some, Option.isNone_none])
      refine ⟨ldI_of (g2.cell (i := 0) rfl rfl) (ldI_of (g2.cell (i := 0) rfl rfl) rfl), ?_⟩
      refine rBeginC g2 (k := 3) rfl ht.node hn12 ht.num.2 (fun _ H3 g3 => ?_) fun h => absurd h hb
      (try simp (config := { maxSteps := 3000000 }) only [asI_mk', asB_mk, asP_mk, asA_mk, asM_mk, asSl_mk, asStr_mk, tup2_mk, tup3_mk, agg1_mk, agg2_mk, agg3_mk, agg4_mk, asAggm, unCons_mk, unNil_mk, asTup_mk, extractD0, extractD1, List.toList_toArray, nilP_mk, add_mk, Nat.zero_add, Nat.add_zero, condT, condF, Bool.not_true, Bool.not_false, Option.isNone_some, Option.isNone_none])
      rw [show ((t.beginE c.a0 n s) == (t.beginE c.a0 n s)) = true from beq_self_eq_true _]
      exact hQ290 t q H3 ht g3.less
  clear hR944
  (try simp (config := { maxSteps := 3000000 }) only [asI_mk', asB_mk, asP_mk, asA_mk, asM_mk, asSl_mk, asStr_mk, tup2_mk, tup3_mk, agg1_mk, agg2_mk, agg3_mk, agg4_mk, asAggm, unCons_mk, unNil_mk, asTup_mk, extractD0, extractD1, List.toList_toArray, nilP_mk, add_mk, Nat.zero_add, Nat.add_zero, condT, condF, Bool.not_true, Bool.not_false, Option.isNone_some, Option.isNone_none])
  refine ldI_of (g8.cell (i := 0) rfl rfl) (ldI_of (g8.cell (i := 4) rfl rfl) (ldI_of (g8.cell (i := 0) rfl rfl) ⟨by decide, ?_, ?_⟩))
  · rw [wrap_i64 (n := c.a0 + 1) (by omega) (by omega)]
    refine Pick_ok (by omega) (by omega) ?_
    (try simp (config := { maxSteps := 3000000 }) only [asI_mk', asB_mk, asP_mk, asA_mk, asM_mk, asSl_mk, asStr_mk, tup2_mk, tup3_mk, agg1_mk, agg2_mk, agg3_mk, agg4_mk, asAggm, unCons_mk, unNil_mk, asTup_mk, extractD0, extractD1, List.toList_toArray, nilP_mk, add_mk, Nat.zero_add, Nat.add_zero, condT, condF, Bool.not_true, Bool.not_false, Option.isNone_some, Option.isNone_none])
    refine ⟨ldI_of (g8.cell (i := 0) rfl rfl) rfl, ?_⟩
    intro b3 hb3
    have g9 := g8.alloc (o := .cells #[.int .i64 0, .int .u64 0] ty_api_ID) hb3
    refine ⟨ldI_of (g9.cell (i := 1) rfl rfl) rfl, ?_⟩
    refine g9.put (i := 0) rfl (show 0 < 2 by decide) fun H10 g10 => g10.put (i := 0) rfl (show 1 < 2 by decide) fun H11 g11 => ?_
    exact hQ944 b3 _ _ H11 g11
  · intro b3 hb3
    have g9 := g8.alloc (o := .cells #[.int .i64 0, .int .u64 0] ty_api_ID) hb3
    refine ⟨ldI_of (g9.cell (i := 1) rfl rfl) rfl, ldI_of (g9.cell (i := 5) rfl rfl) rfl, ldI_of (g9.cell (i := 1) rfl rfl) rfl, ?_⟩
    rw [wrap_i64 (n := c.a0 + 1) (by omega) (by omega)]
    refine Pick_ok (by omega) (by omega) ?_
    (try simp (config := { maxSteps := 3000000 }) only [asI_mk', asB_mk, asP_mk, asA_mk, asM_mk, asSl_mk, asStr_mk, tup2_mk, tup3_mk, agg1_mk, agg2_mk, agg3_mk, agg4_mk, asAggm, unCons_mk, unNil_mk, asTup_mk, extractD0, extractD1, List.toList_toArray, nilP_mk, add_mk, Nat.zero_add, Nat.add_zero, condT, condF, Bool.not_true, Bool.not_false, Option.isNone_some, Option.isNone_none])
    refine ⟨ldI_of (g9.cell (i := 1) rfl rfl) rfl, ?_⟩
    refine g9.put (i := 0) rfl (show 0 < 2 by decide) fun H10 g10 => g10.put (i := 0) rfl (show 1 < 2 by decide) fun H11 g11 => ?_
    exact hQ944 b3 _ _ H11 g11
theorem TracePlays_ok {x : E_hand_Raw} {node last : Int} {sp : Option Addr} {sl sc : Nat} {l : List Stp} {H : Hp} {K : Value → Hp → Prop} (hx : x.ok) (hnode : IntKind.min .i64 ≤ node ∧ node ≤ IntKind.max .i64) (hlast : IntKind.min .u64 ≤ last ∧ last ≤ IntKind.max .u64) (hl : Rd H 26 sp sl (cel Stp.cells l)) (hsl : sl ≤ 9223372036854775807) (hgood : ∀ x ∈ l, x.good H)
    (hK : ∀ H', Keep Nothing H H' → K (.bool true) H') : hcall PR f_law23_TracePlays ⟨[.agg x.cells.toArray, .int .i64 node, .int .u64 last, .slice sp sl sc]⟩ H K :=
  TracePlays_r (r := rawOf x) hx.Start.1 hx.Last.1 hlast.1 hl hsl hgood hK

end Go.Proofs.Ytknejebggegfjaa
