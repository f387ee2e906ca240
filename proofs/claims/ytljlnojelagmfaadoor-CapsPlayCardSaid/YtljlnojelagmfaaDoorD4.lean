/-
  slices.SortedFunc over maps.Keys; (*cut.Ladder).All. (Chapter 12.)
-/
import Derived.Test.YtljlnojelagmfaaDoorD3
import Derived.Shelf.SlSortCmp.NoneTotal
namespace Go.Proofs.YtljlnojelagmfaaDoor
open Go.RowKit Go.Pl Go.Shelf Go.Sort
set_option maxRecDepth 100000

theorem permIn_list {α : Type} [Inhabited α] {d d' : Array α} (h : PermIn 0 d.size d d') : d'.toList.Perm d.toList := by
  obtain ⟨h1, _, h3⟩ := h
  have e1 : d'.extract 0 d.size = d' := by rw [← h1]; simp
  have e2 : d.extract 0 d.size = d := by simp
  rwa [e1, e2] at h3

theorem sortedIn_list {α : Type} [Inhabited α] {lt : α → α → Bool} {d' : Array α} (h : SortedIn lt 0 d'.size d') : d'.toList.Pairwise (fun x y => lt y x = false) := by
  rw [List.pairwise_iff_getElem]
  intro i j hi hj hij
  have := h i j (Nat.zero_le _) hij (by simpa using hj)
  rw [getElem!_pos d' j (by simpa using hj), getElem!_pos d' i (by simpa using hi)] at this
  simpa using this

theorem cells2_enc (ks : List (Int × Int)) : cells2 ks = ks.flatMap enc2 := rfl

set_option maxHeartbeats 1000000 in
theorem sortFunc148 (base g cap : Nat) (cur : Array Value) (ks : List (Int × Int)) (w : World) (hbase : base ≤ g) (hgb : w.heap[g]? = some (.cells cur 28 (0, 0))) (r1 : ks.length ≤ cap) (r2 : cap ≤ maxLen) (r3 : cur.size = cap * 2) (r4 : cur.toList.take (ks.length * 2) = cells2 ks) (hsz : ks.length < 4611686018427387904) :
    Calls Tryd.prog 148 #[.slice (some ⟨g, 0, none⟩) ks.length cap, .func (.func 80) #[] #[]] w fun e w' => e = .returned (.tuple #[]) ∧ ∃ ks', ks'.Perm ks ∧ ks'.Pairwise (fun x y => lt2 y x = false) ∧
      w'.ownsRow base 28 2 (.slice (some ⟨g, 0, none⟩) ks.length cap) ks.length (cells2 ks') ∧ Chg (S1 g) w w' := by
  have eg : ∀ args w, (callFunc 80 args).run Tryd.prog w = .ok (.enter 80 args) w := enters_of Tryd.func80 (by kernel_rfl) rfl
  have hH : HoldsK enc2 2 w g 0 ks.toArray := by
    unfold HoldsK
    rw [flatK_list enc2 2 (fun _ => rfl) (by decide)]
    exact holds_cells hgb (by rw [← cells2_enc, cells2_length]; exact r4)
  have hgl : g < w.heap.size := (Array.getElem?_eq_some_iff.1 hgb).1
  have hcon := AnyQ.slices_SortFunc Tryd.sort148 2 Tryd.isAgg28 Tryd.sizeOf28 enc2 (fun _ => rfl) (fun x v hv => by simp [enc2] at hv; rcases hv with rfl | rfl <;> rfl) cmp2 swo2 80 #[] g 0 cap ks.toArray w eg (cmpLays80 g 0 _ w) hH hgl (by simpa using hsz)
  refine hcon.mono ?_
  rintro e w' ⟨rfl, d', n, os, hp, hs, rfl⟩
  obtain ⟨ks', rfl⟩ : ∃ ks' : List (Int × Int), d' = ks'.toArray := ⟨d'.toList, by simp⟩
  have hperm : ks'.Perm ks := by have := permIn_list hp; simpa using this
  have hlen := hperm.length_eq
  refine ⟨rfl, ks', hperm, ?_, ?_, ?_⟩
  · have hs' : SortedIn (ltOf cmp2) 0 ks'.toArray.size ks'.toArray := by
      have e : ks.toArray.size = ks'.toArray.size := by simp [hlen]
      rw [e] at hs; exact hs
    have := sortedIn_list hs'
    simpa [lt2_eq] using this
  · unfold sortWorldK putRowK
    rw [flatK_list enc2 2 (fun _ => rfl) (by decide), ← cells2_enc]
    exact ownsRow_sortedC (by rw [cells2_length, hlen]) hbase hgb r1 r2 r3
  · unfold sortWorldK putRowK
    exact chg_sortedC _

/-- The keys of a map, sorted: a slice of the call's own; nil just where there are none. -/
def SortedKeys (w0 w : World) (v : Value) (l : List ((Int × Int) × Int)) (ks : List (Int × Int)) : Prop :=
  ks.Perm (l.map (·.1)) ∧ ks.Pairwise (fun x y => lt2 x y = true) ∧ w.ownsRow w0.heap.size 28 2 v ks.length (cells2 ks)

theorem strict_of {ks : List (Int × Int)} (h : ks.Pairwise (fun x y => lt2 y x = false)) (hn : ks.Nodup) : ks.Pairwise (fun x y => lt2 x y = true) := by
  have := h.and hn
  refine this.imp ?_
  rintro ⟨a, b⟩ ⟨c, d⟩ ⟨h1, h2⟩
  simp [lt2] at *
  omega

set_option maxHeartbeats 1000000 in
theorem sortedFunc78 (Bm b : Nat) (l : List ((Int × Int) × Int)) (w : World) (hm : w.cell? ⟨Bm, 0, none⟩ = some (.map (some b))) (hM : MapAt ek2 ekI w b l) (hN : l.length ≤ 1000000) :
    Calls Tryd.prog 78 #[.func (.func 149) #[] #[.pointer (some ⟨Bm, 0, none⟩)], .func (.func 80) #[] #[]] w fun e w' => ∃ (v : Value) (ks : List (Int × Int)), e = .returned v ∧ SortedKeys w w' v l ks ∧ Chg S0 w w' := by
  have hBm := World.block_lt_of_cell? _ _ hm
  have eg : ∀ args w, (callFunc 149 args).run Tryd.prog w = .ok (.enter 149 args) w := enters_of Tryd.func149 (by kernel_rfl) rfl
  have hcol := callsIn_wide.1 (collect147_in Fence.wide 5 trivial trivial rfl (by decide) 149 #[.pointer (some ⟨Bm, 0, none⟩)] trivial eg _ _ l.length (by unfold maxLen; omega) (by omega) w (keys149_stops Fence.wide 3 trivial rfl (by decide) Bm b l w hBm hm hM))
  have H := Lib.hid hcol
  clear hcol
  go_enter Tryd.func78, Tryd.ntmps78
  go_wp2_with (go_at_call 147; refine H.out.mono ?_; rintro e W ⟨v, ss, rfl, hS, hrow, hnil, hb⟩)
  have hlen : ss.length = l.length := by have := hS.length_eq; simpa using this
  have hsz : ss.length < 4611686018427387904 := by omega
  clear hlen
  have hnd : ss.Nodup := hS.nodup_iff.2 hM.nodup
  rcases hrow.2 with ⟨rfl, hz⟩ | ⟨gb, cap, cur, rfl, hbase, hgb, r1, r2, r3, r4⟩
  · have hss : ss = [] := List.eq_nil_of_length_eq_zero hz
    subst hss
    have hno := AnyF.slices_SortFunc_none Tryd.sort148 none 0 (.func (.func 80) #[] #[]) W
    change Calls Tryd.prog 148 _ _ _ at hno
    go_wp2_with (go_at_call 148; refine hno.mono ?_; rintro e w' ⟨rfl, rfl⟩)
    go_ret
    exact ⟨_, [], rfl, ⟨hS, by simp, by simpa using hrow⟩, Chg.of_below0 hb⟩
  · have hcon := sortFunc148 w.heap.size gb cap cur ss W hbase hgb r1 r2 r3 r4 hsz
    have Hc := Lib.hid hcon
    clear hcon
    go_wp2_with (go_at_call 148; refine Hc.out.mono ?_; rintro e w' ⟨rfl, ks', hp, hst, hrow', hc'⟩)
    go_ret
    have hl := hp.length_eq
    refine ⟨_, ks', rfl, ⟨hp.trans hS, strict_of hst (hp.nodup_iff.2 hnd), by rw [hl]; exact hrow'⟩, Chg.step (Chg.of_below0 hb) hc' (fun k hk => .inr (by unfold S1 at hk; omega))⟩

/-- maps.Keys. -/
theorem mapsKeys79 (m : Option Nat) (w : World) : Calls Tryd.prog 79 #[.map m] w fun e w' => e = .returned (.func (.func 149) #[] #[.pointer (some ⟨w.heap.size, 0, none⟩)]) ∧ w' = w.alloc (.cells #[.map m] 24) := by
  go_enter Tryd.func79, Tryd.ntmps79
  go_wp2
  go_ret
  exact ⟨rfl, rfl⟩

set_option maxHeartbeats 1000000 in
/-- (*Ladder).All, where something was set. -/
theorem ladAll_some (lb x : Nat) (fx : Int) (l : List ((Int × Int) × Int)) (w : World) (hL : LadAt w lb (some x) fx l) (hN : l.length ≤ 1000000) :
    Calls Tryd.prog 18 #[.pointer (some ⟨lb, 0, .none⟩)] w fun e w' => ∃ (v : Value) (ks : List (Int × Int)), e = .returned v ∧ SortedKeys w w' v l ks ∧ Chg S0 w w' := by
  have c0 := hL.cells.cell 0
  simp only [List.getElem?_toArray, List.getElem?_cons_zero] at c0
  have hlt := hL.cells.lt
  have hM : MapAt ek2 ekI w x l := hL.map
  have hs := sortedFunc78 w.heap.size x l (w.alloc (.cells #[.map (some x)] 24)) (by simp) (hM.alloc _) hN
  have H := Lib.hid hs
  clear hs
  go_enter Tryd.func18, Tryd.ntmps18
  go_wp2_with (first
    | (go_at_call 79; refine (mapsKeys79 _ _).mono ?_; rintro e w' ⟨rfl, rfl⟩)
    | (go_at_call 78; refine H.out.mono ?_; rintro e w' ⟨v, ks, rfl, ⟨h1, h2, h3⟩, h4⟩))
  go_ret
  exact ⟨v, ks, rfl, ⟨h1, h2, ownsRow_base_a h3 (by simp)⟩, Chg.step ((Chg.refl _ _).alloc _) h4 (fun k hk => hk.elim)⟩
end Go.Proofs.YtljlnojelagmfaaDoor
