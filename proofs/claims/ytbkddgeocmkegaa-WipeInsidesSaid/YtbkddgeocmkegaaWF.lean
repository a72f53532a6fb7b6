/- Lemmas on the way to this seat's statements; they bear no condition of their own. -/
import Derived.Test.YtbkddgeocmkegaaW3
namespace Go.Proofs.Ytbkddgeocmkegaa
open Go.RowKit Go.Shelf
set_option linter.unusedSimpArgs false
set_option linter.unusedVariables false
set_option maxHeartbeats 2000000
attribute [local go_sem ↓] run_start run_byte run_cols
attribute [local go_sem] Oper.semAt_some

set_option maxHeartbeats 20000000 in
set_option maxRecDepth 100000 in
theorem Fill_list {w : World} {g b cap : Nat} {P : Pl} (h : PL w g b cap P) (a d : Int) (c : Cell) (hc : c.ok) (ha : 0 ≤ a ∧ a < (P.cells.length : Int)) (hd : 0 ≤ d ∧ d < (P.cells.length : Int)) (L : List Int) (HL : Hid (btw (P.cells.length : Int) a d = L)) :
    Calls Try.prog 114 #[.pointer (some ⟨g, 0, none⟩), .int .i64 a, .int .i64 d, .agg #[.int .u8 c.byte, .bool c.ge, .bool c.start, .int .u8 c.light, .int .u8 c.color]] w fun e w' => e = .returned (.int .i64 (L.length : Int)) ∧ PL w' g b cap (P.fil L c) ∧ Chg (· = b) w w' := by
  have hn := Pl.N_pos h.ok
  have hm := Pl.N_le h.ok
  have hgl := h.gl
  have hbl := h.bl
  have f0 := h.f0
  have f1 := h.f1
  have hgl1 : g < w.heap.size + 1 := by omega
  have hgl2 : g < w.heap.size + 1 + 1 := by omega
  have hrg : ∀ x ∈ L, 0 ≤ x ∧ x < (P.cells.length : Int) := by rw [← HL.out]; exact btw_range (by omega) a d
  have hpn : (L.length : Int) ≤ 4096 := by rw [← HL.out, btw_len]; have := (btwN_pos ha hd).2; omega
  have hstep := fun k hk => fil_take P L c k hk
  have hsame := fun k => fil_same P (L.take k) c
  have hful : P.fil (L.take L.length) c = P.fil L c := by rw [List.take_length]
  have SQ := Between_seq h.ok (w.heap.size + 1 + 1 + 1) (w.heap.size + 1 + 1 + 1 + 1) (w.heap.size + 1 + 1 + 1 + 1 + 1) a d ha hd
  rw [HL.out] at SQ
  refine (callsIn_wide (n := 0)).1 ?_
  refine callsIn_of_wp_marks Try.func114 rfl trivial ?_ rfl
  simp only [Try.ntmps114, List.size_toArray, List.length_cons, List.length_nil, Nat.reduceAdd, Nat.reduceSub, Array.replicate_succ, Array.replicate_zero, List.push_toArray, List.append_toArray, List.nil_append, List.cons_append]
  gi_wp2_with fail
  refine ⟨trivial, rfl, CallsIn.mono (callsIn_wide.2 (Between_any _ _ _ _ _)) ?_⟩
  rintro e w1 ⟨rfl, rfl⟩
  gi_wp2
  obtain ⟨W0, hW0⟩ : ∃ W0, ((((((w.alloc (.cells #[.pointer (some ⟨g, 0, none⟩)] 52)).alloc (.cells #[.int .u8 c.byte, .bool c.ge, .bool c.start, .int .u8 c.light, .int .u8 c.color] 96)).alloc (.cells #[.int .i64 0] 3)).alloc (.cells #[.int .i64 P.rows, .int .i64 P.cols] 48)).alloc (.cells #[.int .i64 a] 3)).alloc (.cells #[.int .i64 d] 3)) = W0 := ⟨_, rfl⟩
  have hB0 : Below w.heap.size w W0 := by rw [← hW0]; with_reducible (repeat (first | exact Below.refl _ _ | assumption | (refine Below.setCell ?_ (by first | omega | (simp; done) | (simp; omega)) _) | (refine Below.alloc ?_ (by first | omega | (simp; done) | (simp; omega)) _) | (refine below_drewN ?_ _) | (refine Below.drew ?_) | (refine Below.trans ?_ (Below.mono hb (by first | omega | (simp; done) | (simp; omega)))) | (refine Below.trans ?_ (Below.mono hb1 (by first | omega | (simp; done) | (simp; omega)))) | (refine Below.trans ?_ (Below.mono hb2 (by first | omega | (simp; done) | (simp; omega)))) | (refine Below.trans ?_ (Below.mono hb3 (by first | omega | (simp; done) | (simp; omega)))) | (refine Below.trans ?_ (Below.mono hb4 (by first | omega | (simp; done) | (simp; omega)))) | (refine Below.trans ?_ (Below.mono hb5 (by first | omega | (simp; done) | (simp; omega)))) | (refine Below.trans ?_ (Below.mono hb6 (by first | omega | (simp; done) | (simp; omega)))) | (refine Below.trans ?_ (Below.mono hb7 (by first | omega | (simp; done) | (simp; omega)))) | (refine Below.trans ?_ (Below.mono hb8 (by first | omega | (simp; done) | (simp; omega)))) | (refine Below.trans ?_ (Below.mono hb9 (by first | omega | (simp; done) | (simp; omega)))) | (refine Below.trans ?_ (Below.mono hb10 (by first | omega | (simp; done) | (simp; omega)))) | (refine Below.trans ?_ (Below.mono hb11 (by first | omega | (simp; done) | (simp; omega)))) | (refine Below.trans ?_ (Below.mono hb12 (by first | omega | (simp; done) | (simp; omega))))))
  have hz0 : W0.heap.size = w.heap.size + 1 + 1 + 1 + 1 + 1 + 1 := by rw [← hW0]; simp
  obtain ⟨cs, hcs⟩ : ∃ cs : List (Addr × Value), cs = [(⟨w.heap.size, 0, none⟩, .pointer (some ⟨g, 0, none⟩)), (⟨w.heap.size + 1, 0, none⟩, .int .u8 c.byte), (⟨w.heap.size + 1, 1, none⟩, .bool c.ge), (⟨w.heap.size + 1, 2, none⟩, .bool c.start), (⟨w.heap.size + 1, 3, none⟩, .int .u8 c.light), (⟨w.heap.size + 1, 4, none⟩, .int .u8 c.color), (⟨w.heap.size + 1 + 1 + 1, 0, none⟩, .int .i64 P.rows), (⟨w.heap.size + 1 + 1 + 1, 1, none⟩, .int .i64 P.cols), (⟨w.heap.size + 1 + 1 + 1 + 1, 0, none⟩, .int .i64 a), (⟨w.heap.size + 1 + 1 + 1 + 1 + 1, 0, none⟩, .int .i64 d)] := ⟨_, rfl⟩
  have hcsb : ∀ p ∈ cs, w.heap.size ≤ p.1.block ∧ p.1.block ≠ w.heap.size + 1 + 1 := by
    intro p hp
    rw [hcs] at hp
    simp only [List.mem_cons, List.not_mem_nil, or_false] at hp
    rcases hp with rfl | rfl | rfl | rfl | rfl | rfl | rfl | rfl | rfl | rfl <;> (constructor <;> simp <;> omega)
  have hget : ∀ {W}, Cells cs W → W.cell? ⟨w.heap.size, 0, none⟩ = some (.pointer (some ⟨g, 0, none⟩)) ∧ W.cell? ⟨w.heap.size + 1, 0, none⟩ = some (.int .u8 c.byte) ∧ W.cell? ⟨w.heap.size + 1, 1, none⟩ = some (.bool c.ge) ∧ W.cell? ⟨w.heap.size + 1, 2, none⟩ = some (.bool c.start) ∧ W.cell? ⟨w.heap.size + 1, 3, none⟩ = some (.int .u8 c.light) ∧ W.cell? ⟨w.heap.size + 1, 4, none⟩ = some (.int .u8 c.color) ∧ W.cell? ⟨w.heap.size + 1 + 1 + 1, 0, none⟩ = some (.int .i64 P.rows) ∧ W.cell? ⟨w.heap.size + 1 + 1 + 1, 1, none⟩ = some (.int .i64 P.cols) ∧ W.cell? ⟨w.heap.size + 1 + 1 + 1 + 1, 0, none⟩ = some (.int .i64 a) ∧ W.cell? ⟨w.heap.size + 1 + 1 + 1 + 1 + 1, 0, none⟩ = some (.int .i64 d) := by
    intro W hc
    rw [hcs] at hc
    refine ⟨hc (⟨w.heap.size, 0, none⟩, _) (by simp), hc (⟨w.heap.size + 1, 0, none⟩, _) (by simp), hc (⟨w.heap.size + 1, 1, none⟩, _) (by simp), hc (⟨w.heap.size + 1, 2, none⟩, _) (by simp), hc (⟨w.heap.size + 1, 3, none⟩, _) (by simp), hc (⟨w.heap.size + 1, 4, none⟩, _) (by simp), hc (⟨w.heap.size + 1 + 1 + 1, 0, none⟩, _) (by simp), hc (⟨w.heap.size + 1 + 1 + 1, 1, none⟩, _) (by simp), hc (⟨w.heap.size + 1 + 1 + 1 + 1, 0, none⟩, _) (by simp), hc (⟨w.heap.size + 1 + 1 + 1 + 1 + 1, 0, none⟩, _) (by simp)⟩
  have hI0 : RI w g b cap (w.heap.size + 1 + 1 + 1 + 1 + 1 + 1) (w.heap.size + 1 + 1) cs (P.fil (L.take 0) c) (.int .i64 0) W0 := by
    refine ⟨h.below hB0, ?_, ?_, ?_, Chg.of_below hB0, by omega⟩
    · intro p hp
      rw [hcs] at hp
      simp only [List.mem_cons, List.not_mem_nil, or_false] at hp
      rcases hp with rfl | rfl | rfl | rfl | rfl | rfl | rfl | rfl | rfl | rfl <;> (rw [← hW0]; simp [go_sem])
    all_goals (rw [← hW0]; simp [go_sem])
  clear hcs
  rw [hW0]
  clear f0 f1 hgl1 hgl2
  refine wpIn_rangeL (gf := 202) (lb := #[.pointer (some ⟨w.heap.size + 1 + 1 + 1, 0, none⟩), .pointer (some ⟨w.heap.size + 1 + 1 + 1 + 1, 0, none⟩), .pointer (some ⟨w.heap.size + 1 + 1 + 1 + 1 + 1, 0, none⟩)]) rfl (enters_of Try.func202 (by kernel_rfl) rfl)
    SQ (fun v hv => by obtain ⟨x, _, rfl⟩ := List.mem_map.1 hv; rfl)
    (fun k W => RI w g b cap (w.heap.size + 1 + 1 + 1 + 1 + 1 + 1) (w.heap.size + 1 + 1) cs (P.fil (L.take k) c) (.int .i64 (k : Int)) W)
    (fun c k W => False)
    (fun k act W => ∃ (hk : k < L.length), RI w g b cap (w.heap.size + 1 + 1 + 1 + 1 + 1 + 1) (w.heap.size + 1 + 1) cs (P.fil (L.take k) c) (.int .i64 (k : Int)) W ∧
      act = ⟨#[Value.pointer (some { block := g, off := 0 }), Value.int IntKind.i64 a, Value.int IntKind.i64 d, .agg #[.int .u8 c.byte, .bool c.ge, .bool c.start, .int .u8 c.light, .int .u8 c.color],
          Value.pointer (some { block := w.heap.size, off := 0 }), undef, undef,
          Value.pointer (some { block := w.heap.size + 1, off := 0 }), Value.int IntKind.i64 0,
          Value.pointer (some { block := w.heap.size + 1 + 1, off := 0 }), .int .i64 L[k],
          Value.pointer (some { block := g, off := 0 }), Value.pointer (some { block := g, off := 0 }),
          Value.pointer (some { block := g, off := 0 }),
          Value.agg #[Value.int IntKind.i64 P.rows, Value.int IntKind.i64 P.cols], Value.int IntKind.i64 a,
          Value.int IntKind.i64 d,
          Value.func (Fn.func 202) #[] #[Value.pointer (some { block := w.heap.size + 1 + 1 + 1, off := 0 }), Value.pointer (some { block := w.heap.size + 1 + 1 + 1 + 1, off := 0 }), Value.pointer (some { block := w.heap.size + 1 + 1 + 1 + 1 + 1, off := 0 })],
          .int .i64 L[k], undef, undef, undef, undef, undef, undef, undef, undef, undef, undef], []⟩)
    (fun k W hi => ⟨(hget hi.cs).2.2.2.2.2.2.1, (hget hi.cs).2.2.2.2.2.2.2.1, (hget hi.cs).2.2.2.2.2.2.2.2.1, (hget hi.cs).2.2.2.2.2.2.2.2.2⟩)
    (fun k W W' hi ha => hi.aux (by omega) (hz0 ▸ ha))
    (fun c k W W' hi ha => hi)
    (fun k a W W' ⟨hk, hi, e⟩ ha => ⟨hk, hi.aux (by omega) (hz0 ▸ ha), e⟩)
    hI0 ?assign ?body ?done ?stop
  case assign =>
    rintro l k W hk hi
    have hk' : k < L.length := by simpa using hk
    simp only [List.getElem_map]
    gi_wp2
    exact ⟨⟨hk', hi, by first | rfl | trivial⟩, keepsFrom_of_below (Below.refl _ _)⟩
  case body =>
    rintro l k a1 W hk ⟨hk', hi, rfl⟩
    have hx := hrg L[k] (List.getElem_mem hk')
    have hst := hstep k hk'
    obtain ⟨c0, y0, y1, y2, y3, y4, -, -, -, -⟩ := hget hi.cs
    have cn := hi.cn
    have fn := hi.fn
    have hsz := hi.sz
    have hlen := (hsame k).2.2.1
    have hpl := hi.pl
    obtain ⟨Q, hQ⟩ : ∃ Q, P.fil (L.take k) c = Q := ⟨_, rfl⟩
    rw [hQ] at hpl hlen hst
    obtain ⟨x, hxe⟩ : ∃ x, L[k] = x := ⟨_, rfl⟩
    rw [hxe] at hx hst ⊢
    have HST := Lib.hid hst
    have HQ := Lib.hid hQ
    clear hst hxe hQ
    obtain ⟨x0, x1⟩ := hx
    rw [← hlen] at x1
    have f2 := hpl.f2
    have k0 := hpl.cell x.toNat (by omega) 0 (by omega)
    have k1 := hpl.cell x.toNat (by omega) 1 (by omega)
    have k2 := hpl.cell x.toNat (by omega) 2 (by omega)
    have k3 := hpl.cell x.toNat (by omega) 3 (by omega)
    have k4 := hpl.cell x.toNat (by omega) 4 (by omega)
    simp [Cell.vals] at k0 k1 k2 k3 k4
    have fz := hpl.fz
    have fzb := hpl.fzb
    have hP1 := (hpl.put x0 x1 hc).drew
    rw [← HST.out] at hP1
    have hk1 : Chg (· = b) W (putC W b (x.toNat * 5) c).drew := (putC_chg (S := (· = b)) (Chg.refl _ _) (.inl rfl) _ _).drew
    obtain ⟨W5, hW5⟩ : ∃ W5, (putC W b (x.toNat * 5) c).drew = W5 := ⟨_, rfl⟩
    rw [hW5] at hP1 hk1
    have hi1 := (hi.turn hbl (by omega) hcsb hP1 hk1).count hgl hbl (by omega) hcsb (.int .i64 ((k : Int) + 1))
    have hcc : KeepsFrom W0.heap.size W (W5.setCell ⟨w.heap.size + 1 + 1, 0, none⟩ (.int .i64 ((k : Int) + 1))) := (keepsFrom_of_chg hk1 (fun k e => .inl (by subst e; omega))).trans (keepsFrom_of_chg (chg_set _ _ _ _) (fun k e => .inl (by subst e; omega)))
    have cn1 : W5.cell? ⟨w.heap.size + 1 + 1, 0, none⟩ = some (.int .i64 (k : Int)) := cell_keepC cn hk1 (by show ¬ w.heap.size + 1 + 1 = b; omega)
    have fn1 : W5.frozen? ⟨w.heap.size + 1 + 1, 0, none⟩ = false := frozen_keepC cn fn hk1 (by show ¬ w.heap.size + 1 + 1 = b; omega)
    have hCC := Lib.hid (And.intro hcc hi1)
    have HW5 := Lib.hid hW5
    have HCN := Lib.hid (And.intro cn1 fn1)
    clear hP1 hk1 hi1 hcc hW5 cn1 fn1 hi hcsb hget HQ HST cn fn
    gi_wp2_with fail
    gi_region_with (fail)
    all_goals
      change Exit.then _ _ Exit.normal _ (World.drew (putC W b (x.toNat * 5) c))
      rw [HW5.out]
      obtain ⟨cn1, fn1⟩ := HCN.out
      clear k0 k1 k2 k3 k4 y0 y1 y2 y3 y4 c0 f2 fz fzb
      gi_wp2
      exact hCC.out
  case done =>
    rintro D W hD hi hK
    have cn := hi.cn
    have hsz := hi.sz
    gi_wp2
    refine ⟨by simp, .inl ⟨_, _, rfl, run_takeDeferred hK, ?_⟩⟩
    have hi2 := hi.aux (by omega) (Aux.put (.deferred none) (by omega) hK rfl)
    rw [List.length_map, hful] at hi2
    refine ⟨.int .i64 (L.length : Int), ?_, rfl, hi2.pl, hi2.chg⟩
    simp [results, Try.f114, go_sem]
  case stop =>
    rintro D c k W hD hk h
    exact h.elim
end Go.Proofs.Ytbkddgeocmkegaa
