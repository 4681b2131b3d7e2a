/-
  slices.SortFunc(rows, slices.Compare): what is told of it is so.
-/
import Derived.Test.YtmpjdngpblfecaaYSort
set_option linter.unusedSimpArgs false
set_option linter.unusedVariables false
namespace Go.Aev.Ys
open Go Go.Aev Go.Proofs Go.Proofs.Ytmpjdngpblfecaa Go.RowKit Go.Sort Go.Shelf Go.Lib

section
variable {α : Type} [Inhabited α] {enc : α → Value} {w : World} {blk off m : Nat} {dk : Array α} {os : Array Obj}
theorem sw_size : w.heap.size ≤ (sortWorld enc w blk off m dk os).heap.size := by
  simp [sortWorld, putRow, mapBlock, ahead, grow]
theorem sw_other {b : Nat} (h : b < w.heap.size) (hne : b ≠ blk) : (sortWorld enc w blk off m dk os).heap[b]? = w.heap[b]? := by
  simp only [sortWorld, putRow, mapBlock, ahead, grow]
  rw [Array.getElem?_append_left (by simpa [ahead] using h), Array.getElem?_modify, if_neg (fun e => hne e.symm)]
  rfl
theorem sw_self {arr : Array Value} {t : TypeId} (h : w.heap[blk]? = some (.cells arr t (0, 0))) : (sortWorld enc w blk off m dk os).heap[blk]? = some (.cells (putCells enc off dk arr) t (0, 0)) := by
  have hb : blk < w.heap.size := by
    rcases Nat.lt_or_ge blk w.heap.size with g | g
    · exact g
    · rw [Array.getElem?_eq_none g] at h; cases h
  simp only [sortWorld, putRow, mapBlock, ahead, grow]
  rw [Array.getElem?_append_left (by simpa [ahead] using hb), Array.getElem?_modify, if_pos rfl]
  show Option.map (onCells (putCells enc off dk)) w.heap[blk]? = _
  rw [h]
  rfl
theorem pc_get {arr : Array Value} {j : Nat} (hj : j < dk.size) (ha : off + j < arr.size) : (putCells enc off dk arr)[off + j]? = some (enc dk[j]!) := by
  unfold putCells
  rw [Array.getElem?_mapIdx, Array.getElem?_eq_getElem ha]
  have : off ≤ off + j ∧ off + j < off + dk.size := by omega
  simp only [Option.map_some, this, and_self, if_true, Nat.add_sub_cancel_left]
end
section
variable {w : World} {A : Nat → Prop}
theorem rows_ds {blk : Nat} : ∀ {q : List (List Int)} {off : Nat}, RelEls w A blk 1 off (q.map rowC) → (∀ l ∈ q, l.length ≤ 1000000) →
    ∃ ds : List (El w A), ds.map (fun x => x.1.1) = q ∧ ∀ j (hj : j < ds.length), w.cell? ⟨blk, off + j, none⟩ = some (vE ds[j])
  | [], off, _, _ => ⟨[], rfl, fun j hj => by simp at hj⟩
  | l :: q, off, h, hl => by
    simp only [List.map_cons, RelEls, rowC, RelAt] at h
    obtain ⟨_, ⟨⟨v, h1, h2⟩, _⟩, h3⟩ := h
    obtain ⟨ds, e1, e2⟩ := rows_ds (q := q) (off := off + 1) h3 fun l' h' => hl l' (List.mem_cons_of_mem _ h')
    refine ⟨⟨(l, v), h2, hl l List.mem_cons_self⟩ :: ds, by rw [List.map_cons, e1], fun j hj => ?_⟩
    cases j with
    | zero => exact h1
    | succ j =>
      have := e2 j (by simpa using hj)
      rw [show off + 1 + j = off + (j + 1) by omega] at this
      exact this
/-- Rows, laid at a place. -/
theorem rows_at {w' : World} {A' : Nat → Prop} {blk : Nat} (hA : ∀ b, A b → A' b ∧ w'.heap[b]? = w.heap[b]?) : ∀ (ds : List (El w A)) (off : Nat), (∀ j (hj : j < ds.length), w'.cell? ⟨blk, off + j, none⟩ = some (vE ds[j])) →
    RelEls w' A' blk 1 off ((ds.map fun x => x.1.1).map rowC)
  | [], off, _ => by simp [RelEls]
  | x :: ds, off, h => by
    simp only [List.map_cons, RelEls, rowC, RelAt]
    refine ⟨rfl, ⟨⟨_, h 0 (by simp), RelT.mono hA _ _ x.2.1⟩, trivial⟩, rows_at hA ds (off + 1) fun j hj => ?_⟩
    have := h (j + 1) (by simpa using hj)
    rw [show off + 1 + j = off + (j + 1) by omega]
    exact this
end
set_option maxHeartbeats 1000000 in
theorem sort_ok {An : Ann} (hb : An.bref 24 = some [true, false]) (hs : ∀ n, An.bsig 24 n = ⟨[], [.sl 1]⟩) {vals : List AV} {blks : List Blk} {xs : List T} (h : extS vals blks = some xs) : CallOk PR An 24 Go.Proofs.Try.f24 vals blks xs := by
  unfold extS at h
  split at h
  · rename_i sz e ys
    split at h
    · rename_i hsz
      subst hsz
      cases hq : rows? ys with
      | none => simp [hq] at h
      | some q =>
        simp only [hq, Option.bind_some] at h
        split at h
        · rename_i hl
          cases h
          obtain ⟨e1, e2⟩ := rows_eq hq
          subst e1
          intro c w ρ O args hN hs0 hv
          simp only [RelVs, RelV] at hv
          obtain ⟨v, _, rfl, hv1, u, _, rfl, ⟨x', y', rfl, rfl, rfl⟩, rfl⟩ := hv
          obtain ⟨v', hv', ⟨a, cap, rfl, hcap, hnil, _, hrow⟩, _⟩ := hs0.blk (.c 0) _ rfl
          rw [hv1] at hv'
          cases hv'
          rw [List.length_map] at hcap
          have hres : resSh PR An 24 (disc ([Blk.sl false 1 e (q.map rowC)].head?)) Go.Proofs.Try.f24 = [] := by unfold resSh; rw [hb]; simp only [hs]
          have hout : outSh An 24 (disc ([Blk.sl false 1 e (q.map rowC)].head?)) = [.sl 1] := by unfold outSh; rw [hb]; simp only [hs]
          rw [hres, hout]
          have hB : inB0 [Blk.sl false 1 e (q.map rowC)].length ρ 0 = some (.slice a (q.map rowC).length cap) := by
            unfold inB0; rw [if_pos (by simp)]; exact hv1
          by_cases h0 : q = []
          · subst h0
            have hnil0 : (sortL []).map rowC = [] := by unfold sortL; simp
            rw [hnil0]
            have hc := AnyF.slices_SortFunc_none ({ sortI with } : SlLaysF0.n6 PR sortI_ren) a cap (.func (.func 25) #[] #[]) w
            change Calls PR 24 #[.slice a 0 cap, .func (.func 25) #[] #[]] w _ at hc
            refine hc.mono ?_
            rintro _ w' ⟨rfl, rfl⟩
            have ks : KeepO w' w' (Owned O) := ⟨rfl, rfl, rfl, Nat.le_refl _, fun _ _ _ => rfl⟩
            rcases hrow with hc0 | ⟨blk, off, arr, t, rfl, ho, hh, hsz, _⟩
            · refine ⟨[], [], _, [], [], rfl, ks, rfl, List.nodup_nil, by simp, ⟨rfl, rfl, rfl⟩, ?_⟩
              exact ⟨e, [], [], none, _, [], rfl, rfl, hB, ⟨a, cap, rfl, Nat.zero_le _, hnil, trivial, .inl hc0⟩, rfl, rfl⟩
            · simp only [Bool.false_eq_true, if_false] at ho
              refine ⟨[], [], _, [], [blk], rfl, ks, rfl, by simp, ?_, ⟨rfl, rfl, rfl⟩, ?_⟩
              · intro b hbm
                simp only [List.nil_append, List.mem_singleton] at hbm
                subst hbm
                exact ⟨hs0.own _ _ ho, hs0.lt _ _ ho⟩
              · exact ⟨e, [], [], some blk, _, [], rfl, rfl, hB, ⟨_, cap, rfl, Nat.zero_le _, hnil, trivial, .inr ⟨blk, off, arr, t, rfl, rfl, hh, hsz, by simp [RelEls]⟩⟩, rfl, rfl⟩
          · have hpos : 0 < q.length := List.length_pos_iff.2 h0
            rcases hrow with hc0 | ⟨blk, off, arr, t, rfl, ho, hh, hsz, hels⟩
            · omega
            simp only [Bool.false_eq_true, if_false] at ho
            obtain ⟨ds, d1, d2⟩ := rows_ds hels e2
            have dl : ds.length = q.length := by rw [← d1, List.length_map]
            haveI : Inhabited (El w (AA c w O)) := ⟨ds[0]'(by omega)⟩
            have hlt := hs0.lt _ _ ho
            have hne : ∀ b, AA c w O b → b ≠ blk := fun b hb' e' => by subst e'; exact hb'.2.2 _ ho
            have hH : Holds vE w blk off ds.toArray := fun j hj => by
              have hj' : j < ds.length := by simpa using hj
              refine ⟨?_, by simp [World.frozen?, hh]⟩
              rw [d2 j hj']
              simp [hj']
            have hcmp : CmpLays1 PR 25 #[] (vE (w := w) (A := AA c w O)) cE blk off ds.toArray.size w := fun m os dk _ x y =>
              (cmp_in (W := sortWorld vE w blk off m dk os) (fun b hb' => sw_other hb'.2.1 (hne b hb')) x y).mono fun _ _ hw => ⟨hw.1, 0, #[], by rw [hw.2, grow_empty]; rfl⟩
            have eg : ∀ args w, (callFunc 25 args).run PR w = .ok (.enter 25 args) w := enters_of Go.Proofs.Try.func25 (by kernel_rfl) rfl
            have hcon := Any.slices_SortFunc sortI vE vE_one cE cE_swo 25 #[] blk off cap ds.toArray w eg hcmp hH hlt (by simp; omega)
            have hds : ds.toArray.size = (q.map rowC).length := by simp [dl]
            rw [hds] at hcon
            change Calls PR 24 #[.slice (some ⟨blk, off, none⟩) (q.map rowC).length cap, .func (.func 25) #[] #[]] w _ at hcon
            refine hcon.mono ?_
            rintro _ w' ⟨rfl, d', n, os, ⟨p1, _, p3⟩, hsort, rfl⟩
            rw [List.length_map] at p3 hsort
            have hd' : d'.size = q.length := by rw [p1]; simp [dl]
            -- the rows, in their order
            have hperm : d'.toList.Perm ds := by
              have x1 : d'.extract 0 q.length = d' := by rw [← hd', Array.extract_size]
              have x2 : ds.toArray.extract 0 q.length = ds.toArray := by rw [← dl]; exact Array.extract_size
              rw [x1, x2] at p3
              simpa using p3
            have hq' : (d'.toList.map fun x => x.1.1) = sortL q := by
              refine sort_uniq (by rw [← d1]; exact hperm.map _) ?_
              rw [List.pairwise_map, List.pairwise_iff_getElem]
              intro i j hi hj hij
              have := hsort i j (Nat.zero_le _) hij (by rw [← hd']; simpa using hj)
              unfold ltOf cE at this
              have hi' : i < d'.size := by simpa using hi
              have hj' : j < d'.size := by simpa using hj
              simp only [getElem!_pos d' i hi', getElem!_pos d' j hj'] at this
              unfold leC
              simp only [Array.getElem_toList]
              simpa using this
            have hself := sw_self (enc := vE (w := w) (A := AA c w O)) (off := off) (m := n) (dk := d') (os := os) hh
            have hcell : ∀ j (hj : j < d'.toList.length), (sortWorld vE w blk off n d' os).cell? ⟨blk, off + j, none⟩ = some (vE d'.toList[j]) := fun j hj => by
              have hj' : j < d'.size := by simpa using hj
              unfold World.cell?
              simp only [hself]
              rw [if_neg (by simp), pc_get hj' (by omega)]
              simp [hj']
            refine ⟨[], [], _, [], [blk], rfl, ⟨rfl, rfl, rfl, sw_size, fun k hk hno => sw_other hk fun e' => by subst e'; exact hno ⟨_, ho⟩⟩, rfl, by simp, ?_, ⟨rfl, rfl, rfl⟩, ?_⟩
            · intro b hbm
              simp only [List.nil_append, List.mem_singleton] at hbm
              subst hbm
              exact ⟨hs0.own _ _ ho, Nat.lt_of_lt_of_le hlt sw_size⟩
            · have hlen : ((sortL q).map rowC).length = (q.map rowC).length := by rw [List.length_map, List.length_map, sort_len]
              refine ⟨e, (sortL q).map rowC, [], some blk, _, [], rfl, rfl, hB, ⟨_, cap, by rw [hlen], by rw [hlen, List.length_map]; exact hcap, hnil, trivial, .inr ⟨blk, off, _, t, rfl, rfl, hself, ?_, ?_⟩⟩, rfl, rfl⟩
              · unfold putCells; rw [Array.size_mapIdx]; exact hsz
              · rw [← hq']
                refine rows_at (fun b hb' => ⟨⟨hb'.1, Nat.lt_of_lt_of_le hb'.2.1 sw_size, ?_⟩, sw_other hb'.2.1 (hne b hb')⟩) _ off hcell
                simp only [List.nil_append, List.mem_singleton]
                exact hne b hb'
        · cases h
    · cases h
  · cases h
end Go.Aev.Ys
