/-
  maps.Keys, slices.AppendSeq, Collect, SortFunc, SortedFunc over caps's map of pairs (printed by wip/gen_keys.py out of D1 to D5).
-/
import Derived.Test.YtljlnojelagmfaaDoorD5
namespace Go.Proofs.YtljlnojelagmfaaDoor
open Go.RowKit Go.Pl Go.Shelf Go.Sort
set_option maxRecDepth 100000
attribute [local go_sem] Oper.semAt_some

theorem key89 : KeyE Tryd.prog 89 ek2 := by
  refine KeyE.struct Tryd.underlying89 ek2 (fun {a b} e => ?_) (fun w em a => ?_) (fun w a b => ?_) (fun a => ?_)
  · simpa [ek2, Prod.ext_iff] using e
  · have : ∀ n, (Instr.checkKey em (n+2) 89 (ek2 a)).run Tryd.prog w = .ok () w := by
      intro n
      simp [Instr.checkKey, ek2, run_underlying Tryd.underlying89, run_underlying Tryd.underlying3, Result.andThen, go_sem, part]
    exact this 9998
  · have e1 : Tryd.prog.stoodInHeld 89 = false := by kernel_rfl
    simp [Op.equal, Op.maxDepth, ek2, go_sem, e1]
    obtain ⟨a1, a2⟩ := a
    obtain ⟨b1, b2⟩ := b
    by_cases h1 : a1 = b1 <;> by_cases h2 : a2 = b2 <;> simp [h1, h2]
  · have : ∀ n, Instr.sameBits (n+1) (ek2 a) (ek2 a) = true := by intro n; simp [Instr.sameBits, ek2]
    exact this 9999

set_option maxHeartbeats 1000000 in
theorem keys161_in (F : Fence) (n : Nat) (h10 : F.fn 161) (hro : F.round = none) (hn : 1 ≤ n) (l Bm b : Nat) (L : List ((Int × Int) × Int)) (J Jx : List (Int × Int) → World → Prop)
    (hY : ∀ pre x W, J pre W → pre.length < L.length → YieldAt F (n - 1) Tryd.prog l #[ek2 x] W fun e W' => (e = .returned (.bool true) ∧ J (pre ++ [x]) W' ∧ KeepsWalks W W') ∨ (e = .returned (.bool false) ∧ Jx (pre ++ [x]) W'))
    (W : World) (hJ : AbidesFrom W.heap.size J) (hm : W.cell? ⟨Bm, 0, none⟩ = some (.map (some b))) (hown : MapAt ek2 ekI W b L) (h0 : J [] W) :
    CallsIn F n Tryd.prog 161 #[.func (.yield l) #[] #[], .pointer (some ⟨Bm, 0, none⟩)] W fun e W' => (∃ v, e = .returned v) ∧ ((∃ ks : List (Int × Int), ks.Perm (L.map (·.1)) ∧ J ks W') ∨ (∃ pre, Jx pre W')) := by
  refine callsIn_of_wp Tryd.func161 rfl h10 ?_ hro
  simp only [Tryd.ntmps161, List.size_toArray, List.length_cons, List.length_nil, Nat.reduceAdd, Nat.reduceSub, Array.replicate_succ, Array.replicate_zero, List.push_toArray, List.append_toArray, List.nil_append, List.cons_append]
  gi_wp2_with (first
    | (gi_at_range; refine wpListIn_range rfl _ 84 rfl 89 2 Tryd.underlying84 b L rfl hown ?_; intro w0 hrg0 hg0 hs0)
    | gi_in)
  go_frame
  gi_loopw [3] (fun _ wr => ∃ (left : List ((Int × Int) × Int)) (ks : List (Int × Int)), IterAt ek2 ekI wr b W.heap.size L left ∧ (ks ++ left.map (·.1)).Perm (L.map (·.1)) ∧ J ks wr)
    (fun _ wr => wr.rangeLeft b W.heap.size)
  case atStart =>
    exact ⟨L, [], hrg0, by simp, hJ [] W w0 none h0 hg0.grown0 (fun r e => by cases e)⟩
  case round =>
    obtain ⟨left, ks, hrg, hP, hJs⟩ := hrel
    gi_wp2_with (first
      | (gi_at_next; refine wpListIn_next rfl _ rfl b W.heap.size L left rfl hrg ?_ ?_)
      | gi_in)
    · intro h0
      subst h0
      gi_wp2
      go_end0
      exact ⟨⟨_, rfl⟩, .inl ⟨ks, by simpa using hP, hJs⟩⟩
    · intro pre k1 k2 v post w2 hleft hrg2 hg2 hs2 hen
      have hJ2 : J ks w2 := hJ ks wr w2 (some W.heap.size) hJs hg2.grown1 (fun r e => by cases e; exact ⟨Nat.le_refl _, hrg.iter⟩)
      have hlen : ks.length < L.length := by
        have := hP.length_eq
        rw [hleft] at this
        simp at this
        omega
      have hJ3 : J ks (w2.alloc (.cells #[.int .i64 k1, .int .i64 k2] 89)) := hJ ks w2 _ none hJ2 (World.grownBy_alloc _ _ _) (fun r e => by cases e)
      obtain ⟨fn, tmps, assign, body, hy, hR⟩ := hY ks (k1, k2) _ hJ3 hlen
      unfold ek2 ekI at hen
      unfold ek2 at hy
      clear hs2
      have hP' := Lib.hid hP
      have hl' := Lib.hid hleft
      clear hP hleft
      gi_wp2
      refine hR.mono ?_
      rintro e W3 (⟨rfl, hJ4, hk3⟩ | ⟨rfl, hJ4⟩)
      rotate_left
      · gi_wp2
        refine bodyPost_ret (results_none rfl _ _ _) rfl ?_
        exact ⟨⟨_, rfl⟩, .inr ⟨_, hJ4⟩⟩
      gi_wp2
      have hrg3 := (hrg2.chg ((Chg.refl S0 _).alloc (.cells #[.int .i64 k1, .int .i64 k2] 89)) (fun h => h) (fun h => h)).walks hk3
      go_roundw
      case rel =>
        refine ⟨_, ks ++ [(k1, k2)], hrg3, ?_, hJ4⟩
        have := hP'.out
        rw [hl'.out] at this
        refine List.Perm.trans ?_ this
        simp only [List.map_append, List.map_cons, List.append_assoc, List.singleton_append]
        exact List.Perm.append_left _ List.perm_middle.symm
      case measure =>
        rw [hrg3.left_eq, hrg.left_eq, hl'.out]
        simp

theorem keys161_stops (F : Fence) (n : Nat) (h10 : F.fn 161) (hro : F.round = none) (hn : 1 ≤ n) (Bm b : Nat) (L : List ((Int × Int) × Int)) (w : World) (hBm : Bm < w.heap.size) (hm : w.cell? ⟨Bm, 0, none⟩ = some (.map (some b))) (hown : MapAt ek2 ekI w b L) :
    SeqStopsK F n Tryd.prog 161 #[.pointer (some ⟨Bm, 0, none⟩)] (fun x => #[ek2 x]) KeepsWalks (fun ks => ks.Perm (L.map (·.1))) (fun _ => True) L.length w := fun l J Jx W hW hJ _ hY h0 =>
  (keys161_in F n h10 hro hn l Bm b L J Jx hY W hJ ((hW.cell (p := ⟨Bm, 0, none⟩) hBm).trans hm) (MapAt.of_block hown (hW.block b hown.lt)) h0).mono fun _ _ ⟨hv, h⟩ => ⟨hv, h.imp id fun ⟨pre, hp⟩ => ⟨pre, trivial, hp⟩⟩

theorem info89 : (Tryd.prog.info? 89).map (fun i => (i.zero, i.size, i.bytes)) = some (some (.agg #[.int .i64 0, .int .i64 0]), 2, 16) := by kernel_rfl

set_option maxHeartbeats 2000000 in
theorem appendSeq200_in (F : Fence) (n : Nat) (h11 : F.fn 200) (hro : F.round = none) (hn : 2 ≤ n) (g : Nat) (lb : Array Value) (hFg : F.fn g) (eg : ∀ args w, (callFunc g args).run Tryd.prog w = .ok (.enter g args) w)
    (S Sp : List (Int × Int) → Prop) (N : Nat) (hN : N ≤ maxLen) (hNb : N * 16 ≤ 140737488355328) (w : World) (hseq : SeqStopsK F (n - 1) Tryd.prog g lb (fun x => #[ek2 x]) KeepsWalks S Sp N w) :
    CallsIn F n Tryd.prog 200 #[.slice none 0 0, .func (.func g) #[] lb] w fun e w' => ∃ (v : Value) (ss : List (Int × Int)), e = .returned v ∧ S ss ∧ w'.ownsRow w.heap.size 89 2 v ss.length (cells2 ss) ∧ (v = .slice none 0 0 ↔ ss = []) ∧ Below w.heap.size w w' := by
  have h1 : 1 ≤ n := by omega
  obtain ⟨i0, hi, hz0, hz1, hz2⟩ := info_parts info89
  refine callsIn_of_wp_marks Tryd.func200 rfl h11 ?_ hro
  simp only [Tryd.ntmps200, List.size_toArray, List.length_cons, List.length_nil, Nat.reduceAdd, Nat.reduceSub, Array.replicate_succ, Array.replicate_zero, List.push_toArray, List.append_toArray, List.nil_append, List.cons_append]
  gi_wp2
  obtain ⟨W0, hW0⟩ : ∃ W0, w.alloc (.cells #[.slice none 0 0] 93) = W0 := ⟨_, rfl⟩
  have hs0 : W0.heap.size = w.heap.size + 1 := by rw [← hW0]; simp
  have hv0 : Boxed W0 w.heap.size 93 (.slice none 0 0) := by rw [← hW0]; exact Boxed.new w _ _
  have hb0 : Below w.heap.size w W0 := by rw [← hW0]; exact (Below.refl _ w).alloc (Nat.le_refl _) _
  rw [hW0]
  clear hW0
  refine wpIn_rangeFunc_ownH (Kp := KeepsWalks) hro h1 (gf := g) (lb := lb) rfl hFg eg hseq walksK_t walksK_b hb0 (fun _ => rfl)
    (fun pre W => (∃ v, Boxed W w.heap.size 93 v ∧ W.ownsRow w.heap.size 89 2 v pre.length (cells2 pre) ∧ (v = .slice none 0 0 ↔ pre = [])) ∧ Below w.heap.size w W) (fun _ _ _ => False)
    (OwnFrom.and (Own.from (holdsRow_own w.heap.size w.heap.size 93 89 2 _ _ _) _) (ownFrom_below (Nat.le_refl _) (by omega))) (fun _ => fun _ _ _ _ h _ _ => h) ⟨⟨_, hv0, ⟨rfl, .inl ⟨rfl, rfl⟩⟩, by simp⟩, hb0⟩
    (fun x a' W => ∃ Bx, w.heap.size < Bx ∧ CellsAt W Bx #[.int .i64 x.1, .int .i64 x.2] 89 ∧ a' = { tmps := #[.slice none 0 0, .func (.func g) #[] lb, .pointer (some ⟨w.heap.size, 0, none⟩), undef, .slice none 0 0, .pointer (some ⟨Bx, 0, none⟩), .func (.func g) #[] lb, ek2 x, undef, undef, undef, undef, undef], defers := [] })
    (fun x a' s A B row ⟨Bx, h1, h2, h3⟩ hg hr => ⟨Bx, h1, (hg.block Bx h2.lt (fun e => by obtain ⟨_, o, ho, hc⟩ := hr Bx e.symm; rw [show A.heap[Bx]? = _ from h2] at ho; cases ho; cases hc)).trans h2, h3⟩) ?assign ?body ?done ?stop
  case assign =>
    rintro l pre x W K ⟨⟨v, hv, hrow, hnil⟩, hB⟩ hK
    obtain ⟨x1, x2⟩ := x
    simp only [ek2] at *
    have HK := Lib.hid hK
    clear hK
    gi_wp2
    refine HK.out _ _ ((KeepsOthers.alloc _ _).from _) (KeepsWalks.alloc _ _) ⟨⟨v, hv.alloc _, hrow.alloc _, hnil⟩, hB.alloc hB.size _⟩ ⟨W.heap.size, hv.lt, CellsAt.new _ _ _, rfl⟩
  case body =>
    rintro l pre x a' W hl ⟨r, hr⟩ ⟨⟨v, hv, hrow, hnil⟩, hB⟩ ⟨Bx, hBx, bX, rfl⟩ hlt
    obtain ⟨x1, x2⟩ := x
    have q0 := hv.cell
    have q1 := hv.frozen
    have q2 := bX.cell 0
    have q3 := bX.cell 1
    simp at q2 q3
    have hcl := cells2_length pre
    have hBs := hB.size
    have hnew := cells_new W [.int .i64 x1, .int .i64 x2] 89
    gi_wp2_with (first
      | (gi_at_builtin; refine wpListIn_append_own _ rfl _ _ 93 rfl w.heap.size 89 i0 (.agg #[.int .i64 0, .int .i64 0]) 2 16 Tryd.underlying93 hi hz0 hz1 hz2 rfl (by decide) v pre.length (cells2 pre) rfl (hrow.alloc _) ⟨W.heap.size, 0, none⟩ 1 1 [.int .i64 x1, .int .i64 x2] rfl rfl hnew (by simp [Value.oneCell']) (by omega) (by omega) (by simp; omega) ?_; intro v' w1 hown' hgrow _; obtain ⟨g', cap', rfl⟩ := ownsRow_succ hown'; obtain ⟨hv1, hv2, hr2, hk2, hb2⟩ := hv.appended (by decide) hrow hB.size (Nat.le_refl _) hown' hgrow; have hc1 := hv1.cell; have hf1 := hv1.frozen)
      | gi_in)
    exact ⟨hk2.from _, hk2.walks, ⟨_, hv2, by simpa [cells2_snoc] using hr2, by simp⟩, hB.trans hb2⟩
  case done =>
    rintro D ys W hD hS ⟨⟨v, hv, hrow, hnil⟩, hB⟩ hK
    have q0 := hv.cell
    gi_wp2
    refine ⟨by simp, .inl ⟨_, _, rfl, run_takeDeferred hK, ?_⟩⟩
    exact ⟨_, results_tmp rfl _ _ _, v, ys, rfl, hS, ownsRow_putObj hrow _ hK rfl, hnil, hB.trans ((Below.refl _ _).grown (grownBy_putObj' _ D (.deferred none)) hB.size (fun k e => by cases e; omega))⟩
  case stop =>
    intro D c pre W _ _ h
    exact h.elim

set_option maxHeartbeats 1000000 in
theorem collect159_in (F : Fence) (n : Nat) (h8 : F.fn 159) (h11 : F.fn 200) (hro : F.round = none) (hn : 3 ≤ n) (g : Nat) (lb : Array Value) (hFg : F.fn g) (eg : ∀ args w, (callFunc g args).run Tryd.prog w = .ok (.enter g args) w)
    (S Sp : List (Int × Int) → Prop) (N : Nat) (hN : N ≤ maxLen) (hNb : N * 16 ≤ 140737488355328) (w : World) (hseq : SeqStopsK F (n - 1 - 1) Tryd.prog g lb (fun x => #[ek2 x]) KeepsWalks S Sp N w) :
    CallsIn F n Tryd.prog 159 #[.func (.func g) #[] lb] w fun e w' => ∃ (v : Value) (ss : List (Int × Int)), e = .returned v ∧ S ss ∧ w'.ownsRow w.heap.size 89 2 v ss.length (cells2 ss) ∧ (v = .slice none 0 0 ↔ ss = []) ∧ Below w.heap.size w w' := by
  have h1 : 1 ≤ n := by omega
  refine callsIn_of_wp Tryd.func159 rfl h8 ?_ hro
  simp only [Tryd.ntmps159, List.size_toArray, List.length_cons, List.length_nil, Nat.reduceAdd, Nat.reduceSub, Array.replicate_succ, Array.replicate_zero, List.push_toArray, List.append_toArray, List.nil_append, List.cons_append]
  gi_wp2_with (gi_at_call 200; refine (appendSeq200_in F (n - 1) h11 hro (by omega) g lb hFg eg S Sp N hN hNb _ hseq).mono ?_; rintro e w' ⟨v, ss, rfl, hS, hrow, hnil, hb⟩)
  go_ret
  exact ⟨v, ss, rfl, hS, hrow, hnil, hb⟩

set_option maxHeartbeats 4000000 in
theorem closure110 (x1 x2 y1 y2 : Int) (W : World) : Calls Tryd.prog 110 #[.agg #[.int .i64 x1, .int .i64 x2], .agg #[.int .i64 y1, .int .i64 y2]] W fun e w' => e = .returned (.int .i64 (cmp2 (x1, x2) (y1, y2))) ∧ ∃ q os', w' = grow (W.drewN q) os' := by
  unfold cmp2
  simp only
  go_enter Tryd.func110, Tryd.ntmps110
  go_wp2
  go_region_held3 (fun w' => w'.cell? ⟨W.heap.size, 0, none⟩ = some (.int .i64 x1) ∧ w'.cell? ⟨W.heap.size, 1, none⟩ = some (.int .i64 x2) ∧ w'.cell? ⟨W.heap.size + 1, 0, none⟩ = some (.int .i64 y1) ∧ w'.cell? ⟨W.heap.size + 1, 1, none⟩ = some (.int .i64 y2)) (go_keep)
    (first | (go_at_call 82; refine (compare_any _ _ _).mono ?_; rintro e w' ⟨rfl, rfl⟩) | (go_at_call 81; refine (or2_any _ (cmpI x1 y1) (cmpI x2 y2) _ ?_ ?_).mono ?_; (simp [go_sem]); (simp [go_sem]); rintro e w' ⟨rfl, rfl⟩))
  go_wp2
  go_ret
  exact ⟨rfl, 1, _, by simp only [alloc_eq_grow, grow_grow]; rfl⟩

theorem cmpLays110 (blk off size : Nat) (w : World) : CmpLays Tryd.prog 110 #[] enc2 2 cmp2 blk off size w :=
  fun _ _ _ _ x y => closure110 x.1 x.2 y.1 y.2 _

set_option maxHeartbeats 1000000 in
theorem sortFunc160 (base g cap : Nat) (cur : Array Value) (ks : List (Int × Int)) (w : World) (hbase : base ≤ g) (hgb : w.heap[g]? = some (.cells cur 89 (0, 0))) (r1 : ks.length ≤ cap) (r2 : cap ≤ maxLen) (r3 : cur.size = cap * 2) (r4 : cur.toList.take (ks.length * 2) = cells2 ks) (hsz : ks.length < 4611686018427387904) :
    Calls Tryd.prog 160 #[.slice (some ⟨g, 0, none⟩) ks.length cap, .func (.func 110) #[] #[]] w fun e w' => e = .returned (.tuple #[]) ∧ ∃ ks', ks'.Perm ks ∧ ks'.Pairwise (fun x y => lt2 y x = false) ∧
      w'.ownsRow base 89 2 (.slice (some ⟨g, 0, none⟩) ks.length cap) ks.length (cells2 ks') ∧ Chg (S1 g) w w' := by
  have eg : ∀ args w, (callFunc 110 args).run Tryd.prog w = .ok (.enter 110 args) w := enters_of Tryd.func110 (by kernel_rfl) rfl
  have hH : HoldsK enc2 2 w g 0 ks.toArray := by
    unfold HoldsK
    rw [flatK_list enc2 2 (fun _ => rfl) (by decide)]
    exact holds_cells hgb (by rw [← cells2_enc, cells2_length]; exact r4)
  have hgl : g < w.heap.size := (Array.getElem?_eq_some_iff.1 hgb).1
  have hcon := AnyQ.slices_SortFunc Tryd.sort160 2 Tryd.isAgg89 Tryd.sizeOf89 enc2 (fun _ => rfl) (fun x v hv => by simp [enc2] at hv; rcases hv with rfl | rfl <;> rfl) cmp2 swo2 110 #[] g 0 cap ks.toArray w eg (cmpLays110 g 0 _ w) hH hgl (by simpa using hsz)
  refine hcon.mono ?_
  rintro e w' ⟨rfl, d', n, os, hp, hs, rfl⟩
  obtain ⟨ks', rfl⟩ : ∃ ks' : List (Int × Int), d' = ks'.toArray := ⟨d'.toList, by simp⟩
  have hperm : ks'.Perm ks := by have := permIn_list hp; simpa using this
  have hlen := hperm.length_eq
  refine ⟨rfl, ks', hperm, ?_, ?_, ?_⟩
  · have hs' : SortedIn (ltOf cmp2) 0 ks'.toArray.size ks'.toArray := by
      have e : ks.toArray.size = ks'.toArray.size := by simp [hlen]
      rw [e] at hs; exact hs
    have := sortedIn_list hs'
    simpa [lt2_eq] using this
  · unfold sortWorldK putRowK
    rw [flatK_list enc2 2 (fun _ => rfl) (by decide), ← cells2_enc]
    exact ownsRow_sortedC (by rw [cells2_length, hlen]) hbase hgb r1 r2 r3
  · unfold sortWorldK putRowK
    exact chg_sortedC _

/-- The keys of a map, sorted: a slice of the call's own; nil just where there are none. -/
def SortedKeys89 (w0 w : World) (v : Value) (l : List ((Int × Int) × Int)) (ks : List (Int × Int)) : Prop :=
  ks.Perm (l.map (·.1)) ∧ ks.Pairwise (fun x y => lt2 x y = true) ∧ w.ownsRow w0.heap.size 89 2 v ks.length (cells2 ks)

set_option maxHeartbeats 1000000 in
theorem sortedFunc108 (Bm b : Nat) (l : List ((Int × Int) × Int)) (w : World) (hm : w.cell? ⟨Bm, 0, none⟩ = some (.map (some b))) (hM : MapAt ek2 ekI w b l) (hN : l.length ≤ 1000000) :
    Calls Tryd.prog 108 #[.func (.func 161) #[] #[.pointer (some ⟨Bm, 0, none⟩)], .func (.func 110) #[] #[]] w fun e w' => ∃ (v : Value) (ks : List (Int × Int)), e = .returned v ∧ SortedKeys89 w w' v l ks ∧ Chg S0 w w' := by
  have hBm := World.block_lt_of_cell? _ _ hm
  have eg : ∀ args w, (callFunc 161 args).run Tryd.prog w = .ok (.enter 161 args) w := enters_of Tryd.func161 (by kernel_rfl) rfl
  have hcol := callsIn_wide.1 (collect159_in Fence.wide 5 trivial trivial rfl (by decide) 161 #[.pointer (some ⟨Bm, 0, none⟩)] trivial eg _ _ l.length (by unfold maxLen; omega) (by omega) w (keys161_stops Fence.wide 3 trivial rfl (by decide) Bm b l w hBm hm hM))
  have H := Lib.hid hcol
  clear hcol
  go_enter Tryd.func108, Tryd.ntmps108
  go_wp2_with (go_at_call 159; refine H.out.mono ?_; rintro e W ⟨v, ss, rfl, hS, hrow, hnil, hb⟩)
  have hlen : ss.length = l.length := by have := hS.length_eq; simpa using this
  have hsz : ss.length < 4611686018427387904 := by omega
  clear hlen
  have hnd : ss.Nodup := hS.nodup_iff.2 hM.nodup
  rcases hrow.2 with ⟨rfl, hz⟩ | ⟨gb, cap, cur, rfl, hbase, hgb, r1, r2, r3, r4⟩
  · have hss : ss = [] := List.eq_nil_of_length_eq_zero hz
    subst hss
    have hno := AnyF.slices_SortFunc_none Tryd.sort160 none 0 (.func (.func 110) #[] #[]) W
    change Calls Tryd.prog 160 _ _ _ at hno
    go_wp2_with (go_at_call 160; refine hno.mono ?_; rintro e w' ⟨rfl, rfl⟩)
    go_ret
    exact ⟨_, [], rfl, ⟨hS, by simp, by simpa using hrow⟩, Chg.of_below0 hb⟩
  · have hcon := sortFunc160 w.heap.size gb cap cur ss W hbase hgb r1 r2 r3 r4 hsz
    have Hc := Lib.hid hcon
    clear hcon
    go_wp2_with (go_at_call 160; refine Hc.out.mono ?_; rintro e w' ⟨rfl, ks', hp, hst, hrow', hc'⟩)
    go_ret
    have hl := hp.length_eq
    refine ⟨_, ks', rfl, ⟨hp.trans hS, strict_of hst (hp.nodup_iff.2 hnd), by rw [hl]; exact hrow'⟩, Chg.step (Chg.of_below0 hb) hc' (fun k hk => .inr (by unfold S1 at hk; omega))⟩

/-- maps.Keys. -/
theorem mapsKeys109 (m : Option Nat) (w : World) : Calls Tryd.prog 109 #[.map m] w fun e w' => e = .returned (.func (.func 161) #[] #[.pointer (some ⟨w.heap.size, 0, none⟩)]) ∧ w' = w.alloc (.cells #[.map m] 84) := by
  go_enter Tryd.func109, Tryd.ntmps109
  go_wp2
  go_ret
  exact ⟨rfl, rfl⟩

set_option maxHeartbeats 1000000 in
theorem keysNil161_stops (F : Fence) (n : Nat) (h10 : F.fn 161) (hro : F.round = none) (Bm : Nat) (w : World) (hBm : Bm < w.heap.size) (hm : w.cell? ⟨Bm, 0, none⟩ = some (.map none)) :
    SeqStopsK F n Tryd.prog 161 #[.pointer (some ⟨Bm, 0, none⟩)] (fun x : Int × Int => #[ek2 x]) KeepsWalks (fun ks => ks = []) (fun _ => True) 0 w := by
  intro l J Jx W hW hJ _ hY h0
  have hm' : W.cell? ⟨Bm, 0, none⟩ = some (.map none) := (hW.cell (p := ⟨Bm, 0, none⟩) hBm).trans hm
  clear hm hY
  refine callsIn_of_wp Tryd.func161 rfl h10 ?_ hro
  simp only [Tryd.ntmps161, List.size_toArray, List.length_cons, List.length_nil, Nat.reduceAdd, Nat.reduceSub, Array.replicate_succ, Array.replicate_zero, List.push_toArray, List.append_toArray, List.nil_append, List.cons_append]
  have hit := (MapKept.heap_alloc W (.mapIter none 0 #[] 0)).1
  have hJ1 : J [] (W.alloc (.mapIter none 0 #[] 0)) := hJ [] W _ none h0 (World.grownBy_alloc _ _ _) (fun r e => by cases e)
  gi_wp2_with (first
    | (gi_at_range; refine wpListIn_rangeNil rfl _ 84 rfl 89 2 Tryd.underlying84 rfl ?_)
    | gi_in)
  go_frame
  gi_loopw [3] (fun _ wr => wr.heap[W.heap.size]? = some (.mapIter none 0 #[] 0) ∧ J [] wr) (fun _ _ => 0)
  case atStart => exact ⟨hit, hJ1⟩
  case round =>
    obtain ⟨hr, hJ2⟩ := hrel
    gi_wp2_with (first
      | (gi_at_next; refine wpListIn_nextNil rfl _ rfl W.heap.size rfl hr ?_)
      | gi_in)
    go_end0
    exact ⟨⟨_, rfl⟩, .inl ⟨[], rfl, hJ2⟩⟩

set_option maxHeartbeats 1000000 in
theorem sortedFunc108_nil (Bm : Nat) (w : World) (hm : w.cell? ⟨Bm, 0, none⟩ = some (.map none)) :
    Calls Tryd.prog 108 #[.func (.func 161) #[] #[.pointer (some ⟨Bm, 0, none⟩)], .func (.func 110) #[] #[]] w fun e w' => e = .returned (.slice none 0 0) ∧ Chg S0 w w' := by
  have hBm := World.block_lt_of_cell? _ _ hm
  have eg : ∀ args w, (callFunc 161 args).run Tryd.prog w = .ok (.enter 161 args) w := enters_of Tryd.func161 (by kernel_rfl) rfl
  have hcol := callsIn_wide.1 (collect159_in Fence.wide 5 trivial trivial rfl (by decide) 161 #[.pointer (some ⟨Bm, 0, none⟩)] trivial eg _ _ 0 (by unfold maxLen; omega) (by omega) w (keysNil161_stops Fence.wide 3 trivial rfl Bm w hBm hm))
  have H := Lib.hid hcol
  clear hcol
  go_enter Tryd.func108, Tryd.ntmps108
  go_wp2_with (go_at_call 159; refine H.out.mono ?_; rintro e W ⟨v, ss, rfl, rfl, hrow, hnil, hb⟩)
  obtain rfl : v = .slice none 0 0 := by simpa using hnil
  have hno := AnyF.slices_SortFunc_none Tryd.sort160 none 0 (.func (.func 110) #[] #[]) W
  change Calls Tryd.prog 160 _ _ _ at hno
  go_wp2_with (go_at_call 160; refine hno.mono ?_; rintro e w' ⟨rfl, rfl⟩)
  go_ret
  exact ⟨rfl, Chg.of_below0 hb⟩

end Go.Proofs.YtljlnojelagmfaaDoor
