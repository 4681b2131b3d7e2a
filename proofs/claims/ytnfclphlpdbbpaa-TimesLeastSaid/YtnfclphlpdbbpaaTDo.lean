/-
  What Do returns: of all right schedules one that ends soonest, or there is none.
-/
import Derived.Test.YtnfclphlpdbbpaaTSearch
set_option linter.unusedSimpArgs false
set_option linter.unusedVariables false
namespace Go.Aev.Gen
open Go Go.Aev
open Classical

/-! ### Pairs of jobs whose order is settled -/
def Settled (js : List J) (ws : List W) (a b : Nat) : Prop := ∃ w ∈ ws, (w.a = a ∧ w.b = b ∧ w.y = (jat js a).l) ∨ (w.a = b ∧ w.b = a ∧ w.y = (jat js b).l)
noncomputable def open' (js : List J) (ws : List W) : Nat := count (fun p => ¬ Settled js ws (p / 8) (p % 8)) 64
theorem settled_fine {js : List J} {ws : List W} {d : List Int} {i k : Nat} (h : Settled js ws i k) (hw : Waits ws d) : ¬ Over js d i k := by
  rintro ⟨⟨_, h1⟩, h2⟩
  obtain ⟨w, hm, ⟨e1, e2, e3⟩ | ⟨e1, e2, e3⟩⟩ := h
  · have := hw w hm; rw [e1, e2, e3] at this; omega
  · have := hw w hm; rw [e1, e2, e3] at this; omega
theorem open_less {js : List J} {ws : List W} {d : List Int} {i k : Nat} {w : W} (hi : i < 8) (hk : k < 8) (ho : Over js d i k) (hw : Waits ws d) (hs : Settled js [w] i k) : open' js (ws ++ [w]) < open' js ws := by
  have hmono : ∀ a b, Settled js ws a b → Settled js (ws ++ [w]) a b := fun a b ⟨u, hu, h⟩ => ⟨u, List.mem_append_left _ hu, h⟩
  refine count_lt (fun p _ h1 h2 => h1 (hmono _ _ h2)) ⟨i * 8 + k, by omega, ?_, ?_⟩
  · have e1 : (i * 8 + k) / 8 = i := by omega
    have e2 : (i * 8 + k) % 8 = k := by omega
    rw [e1, e2]
    obtain ⟨u, hu, h⟩ := hs
    exact fun h' => h' ⟨u, List.mem_append_right _ hu, h⟩
  · have e1 : (i * 8 + k) / 8 = i := by omega
    have e2 : (i * 8 + k) % 8 = k := by omega
    rw [e1, e2]
    exact fun h => settled_fine h hw ho

/-! ### The search -/
/-- What the search has found so far. -/
def State (js : List J) (ws : List W) (fd : Bool) (la : Int) (x : T) : Prop := fd = true → ∃ ec d, x = T.lst 1 ec (enc d) ∧ d.length = js.length ∧ RightP js ws d ∧ Mild d ∧ la = span js d
theorem right_more {js : List J} {ws : List W} {w : W} {d : List Int} (h : RightP js (ws ++ [w]) d) : RightP js ws d := ⟨h.1, fun u hu => h.2 u (List.mem_append_left _ hu)⟩
theorem State.more {js : List J} {ws : List W} {w : W} {fd : Bool} {la : Int} {x : T} (h : State js (ws ++ [w]) fd la x) : State js ws fd la x := fun hf => by
  obtain ⟨ec, d, h1, h2, h3, h4⟩ := h hf
  exact ⟨ec, d, h1, h2, right_more h3, h4⟩
theorem right_feas {js : List J} {ws : List W} {s : List Int} (hl : s.length = js.length) (h : RightP js ws s) : Feas ws (froms js) s := by
  refine ⟨h.2, fun i hi => ?_⟩
  by_cases hn : i < (js.length : Int)
  · have := (h.1 i.toNat (by omega)).1
    rw [show ((i.toNat : Nat) : Int) = i by omega] at this
    rw [froms_at]; exact this
  · rw [at_out (l := s) (by omega), at_out (l := froms js) (by simp [froms]; omega)]
    exact Int.le_refl _

/-- What a search adds. -/
structure Post (js : List J) (ws0 ws : List W) (fd : Bool) (la : Int) (fd' : Bool) (la' : Int) (x' : T) : Prop where
  st : State js ws0 fd' la' x'
  lst : ∃ ec y, x' = T.lst 1 ec y
  keep : fd = true → fd' = true ∧ la' ≤ la
  best : ∀ s : List Int, s.length = js.length → RightP js ws s → fd' = true ∧ la' ≤ span js s
theorem take_back (ws : List W) (w : W) (h : ws.length ≤ 1000) : List.take ((IntKind.i64.wrap (((eWs (ws ++ [w])).length : Int) - 1)).toNat - 0) (eWs (ws ++ [w])) = eWs ws := by
  have hl : (eWs (ws ++ [w])).length = ws.length + 1 := by simp [eWs]
  rw [hl, wr (by omega), show ((((ws.length + 1 : Nat) : Int) - 1).toNat - 0) = ws.length by omega]
  simp [eWs]

section
variable {js : List J} {ws0 : List W} {e : Bool}
/-- Behind the last of the two ways. -/
theorem n19two (w1 w2 : W) (ea ew fd : Bool) (la : Int) (x : T) (ws : List W) :
    Or K19n6m2 [r0, AV.own (Id.c 2), I 2, I 2] [bP e js fd la x 3, Blk.dead, Blk.sl false 3 ea (eWs [w1, w2]), bW ew ws] = some [T.lst 3 e (eJs js), T.lst 3 ew (eWs ws), tb fd, ti la, x] := by
  refine orc_of ?_
  rw [e19n6]
  have h1 : ¬ (2 : Int) < 2 := by decide
  simp only [gd1, hd1, tl1, dr0, dr1, dr2, dr3, dr4, dr5, dr6, bo1, in1, st1, ls1, le1, pt1, fi1, fb1, fs1, ct1, cf1, nt1, nf1, ak0, akT, akF, cdec, cndec, cbeq, cnbeq, ↓reduceIte, beq_self_eq_true, Int.reduceBEq, Int.reduceEq, Bool.and_true, Bool.true_and, Bool.false_and, Bool.and_false, h1]
def Sees (js : List J) (ws0 : List W) (e : Bool) (ws : List W) (ew fd : Bool) (la : Int) (x : T) : Prop := ∃ ew' fd' la' x', Or (.call 19) [r0] [bP e js fd la x 1, bW ew ws] = some [T.lst 3 e (eJs js), T.lst 3 ew' (eWs ws), tb fd', ti la', x'] ∧ Post js ws0 ws fd la fd' la' x'
theorem n19step (w : W) (w1 w2 : W) (i : Nat) (hi : i < 2) (hg : [w1, w2][i]? = some w) (ea ew fd : Bool) (la : Int) (x : T) (ws : List W) (hws : ws.length ≤ 500) (hsee : ∀ ew, Sees js ws0 e (ws ++ [w]) ew fd la x) :
    ∃ ew' fd' la' x', (∀ R, Or K19n6m2 [r0, AV.own (Id.c 2), I 2, I ((i + 1 : Nat) : Int)] [bP e js fd' la' x' 3, Blk.dead, Blk.sl false 3 ea (eWs [w1, w2]), bW ew' ws] = some R →
      Or K19n6m2 [r0, AV.own (Id.c 2), I 2, I (i : Int)] [bP e js fd la x 3, Blk.dead, Blk.sl false 3 ea (eWs [w1, w2]), bW ew ws] = some R) ∧ Post js ws0 (ws ++ [w]) fd la fd' la' x' := by
  obtain ⟨ew', fd', la', x', h, hp⟩ := hsee false
  obtain ⟨ec, y, rfl⟩ := hp.lst
  refine ⟨ew', fd', la', _, fun R hR => orc_of ?_, hp⟩
  rw [e19n6]
  have h1 : (i : Int) < 2 := by omega
  have h0 : 0 ≤ (i : Int) := by omega
  have h2 : (i : Int) < (((eWs [w1, w2]).length : Nat) : Int) := by simp [eWs]; omega
  have happ : eWs ws ++ [[ti w.a, ti w.b, ti w.y]] = eWs (ws ++ [w]) := by simp [eWs, eW]
  have hsm : small 24 ((eWs ws).length + [[ti w.a, ti w.b, ti w.y]].length) = some () := small_ok (by simp [eWs]; omega)
  have hl : (eWs (ws ++ [w])).length = ws.length + 1 := by simp [eWs]
  have hin : inB 0 (IntKind.i64.wrap (((eWs (ws ++ [w])).length : Int) - 1)) ((eWs (ws ++ [w])).length : Int) = some () := by
    rw [hl, wr (by omega)]; exact inB_ok (by omega)
  have htb := take_back ws w (by omega)
  have hgw := eWs_get hg
  simp only [gd1, hd1, tl1, dr0, dr1, dr2, dr3, dr4, dr5, dr6, bo1, in1, st1, ls1, le1, pt1, fi1, fb1, fs1, ct1, cf1, nt1, nf1, ak0, akT, akF, cdec, cndec, cbeq, cnbeq, ↓reduceIte, beq_self_eq_true, Int.reduceBEq, Int.reduceEq, Bool.and_true, Bool.true_and, Bool.false_and, Bool.and_false, h1, h0, h2, and_self, hgw, hsm, happ, h, hin, htb, next i (by omega)]
  exact hR

theorem pass_bd {n : Nat} : ∀ {ws : List W} {p : List Int × Bool} {c : Nat}, InR n ws → p.1.length = n → Bd c p.1 → Bd (c + ws.length) (pass ws p).1
  | [], _, _, _, _, h => h
  | w :: ws, p, c, hr, hl, h => by
    have := pass_bd hr.tail (p := relax w p) (by rw [relax_len]; exact hl) (relax_bd (hr w List.mem_cons_self) hl h)
    rw [show c + 1 + ws.length = c + (w :: ws).length by simp; omega] at this
    exact this
theorem rounds_bd {n : Nat} {ws : List W} (hr : InR n ws) : ∀ {k c : Nat} {d0 d : List Int}, rounds ws k d0 = some d → d0.length = n → Bd c d0 → Bd (c + k * ws.length) d
  | 0, _, _, _, h, _, _ => by simp [rounds] at h
  | k + 1, c, d0, d, h, hl, hb => by
    simp only [rounds] at h
    have hm : (k + 1) * ws.length = k * ws.length + ws.length := Nat.succ_mul _ _
    have h1 := pass_bd (p := (d0, false)) hr hl hb
    split at h
    · have := rounds_bd hr h (by rw [pass_len]; exact hl) h1
      rw [show c + ws.length + k * ws.length = c + (k + 1) * ws.length by omega] at this
      exact this
    · simp only [Option.some.injEq] at h; subst h
      intro i hi
      have := h1 i hi
      omega

theorem lst_shape {x : T} {p : Bool × List (List T)} (h : x.lst? 1 = some p) : x = T.lst 1 p.1 p.2 ∨ x = T.emp p.1 := by
  rcases T.lst?_eq h with h | h
  · exact .inl h
  · exact .inr h.1
theorem State.same {ws : List W} {fd : Bool} {la : Int} {x : T} {p : Bool × List (List T)} (h : State js ws fd la x) (hx : x.lst? 1 = some p) : State js ws fd la (T.lst 1 p.1 p.2) := fun hf => by
  obtain ⟨ec, d, rfl, h2⟩ := h hf
  simp only [T.lst?, if_true, Option.some.injEq] at hx; subst hx
  exact ⟨ec, d, rfl, h2⟩
theorem eJs_nat {k : Nat} (h : k < js.length) : (eJs js)[((k : Nat) : Int).toNat]? = some [ti (jat js k).l, ti (jat js k).m, ti (jat js k).f] := eJs_at ⟨by omega, by omega⟩
theorem InR.snoc {n : Nat} {ws : List W} {w : W} (h : InR n ws) (hw : (0 ≤ w.a ∧ w.a < (n : Int)) ∧ (0 ≤ w.b ∧ w.b < (n : Int)) ∧ -200 ≤ w.y ∧ w.y ≤ 200) : InR n (ws ++ [w]) := fun u hu => by
  rcases List.mem_append.1 hu with hu | hu
  · exact h u hu
  · simp only [List.mem_singleton] at hu; subst hu; exact hw

def Plan (js : List J) (ws0 : List W) (e : Bool) (ws : List W) : Prop := InR js.length ws → (∀ w ∈ ws0, w ∈ ws) → ws.length + open' js ws ≤ 200 →
    ∀ (ew fd : Bool) (la : Int) (x : T) (p : Bool × List (List T)), x.lst? 1 = some p → State js ws0 fd la x → Sees js ws0 e ws ew fd la x
theorem search_step (hn : js.length ≤ 8) (hj : ∀ i : Int, 0 ≤ (jat js i).l ∧ (jat js i).l ≤ 200 ∧ 0 ≤ (jat js i).f ∧ (jat js i).f ≤ 200) (ws : List W) (ih : ∀ ws', open' js ws' < open' js ws → Plan js ws0 e ws') : Plan js ws0 e ws := by
    intro hr hsub hlen ew fd la x p hx hst
    obtain ⟨ec, h24⟩ := s24 js e ew fd la x ws hr hn (by omega) (fun i => (hj i).2.2)
    have hfl : (froms js).length = js.length := by simp [froms]
    have hjl : ∀ i : Int, 0 ≤ (jat js i).l ∧ (jat js i).l ≤ 200 := fun i => ⟨(hj i).1, (hj i).2.1⟩
    have hst' := hst.same hx
    cases hrd : rounds ws (js.length + 1) (froms js) with
    | none =>
      rw [hrd] at h24
      simp only [resE] at h24
      refine ⟨ew, fd, la, T.lst 1 p.1 p.2, orc_of ?_, ⟨hst', ⟨p.1, p.2, rfl⟩, fun h => ⟨h, Int.le_refl _⟩, fun s hl hs => (rounds_none hr hfl hrd s hl (right_feas hl hs)).elim⟩⟩
      rw [e19]
      simp only [gd1, hd1, tl1, dr0, dr1, dr2, dr3, dr4, dr5, dr6, bo1, in1, st1, ls1, le1, pt1, fi1, fb1, fs1, ct1, cf1, nt1, nf1, ak0, akT, akF, cdec, cndec, cbeq, cnbeq, ↓reduceIte, beq_self_eq_true, Int.reduceBEq, Int.reduceEq, Bool.and_true, Bool.true_and, Bool.false_and, Bool.and_false, gdF, h24, hx, Bool.not_false, Bool.not_true]
    | some d =>
      rw [hrd] at h24
      simp only [resE] at h24
      obtain ⟨d1, d2, d3, d4⟩ := rounds_some hr hrd hfl
      have hbd := rounds_bd (c := 0) hr hrd hfl (fun i hi => by rw [froms_at]; have := hj i; omega)
      have hml : (js.length + 1) * ws.length ≤ 9 * 200 := Nat.mul_le_mul (by omega) (by omega)
      have hmild : Mild d := fun i => by
        by_cases hi : 0 ≤ i
        · have := hbd i hi; omega
        · have : at' d i = at' d 0 := by simp [at', show i.toNat = 0 by omega]
          rw [this]; have := hbd 0 (by omega); omega
      have h25 := s25 js e ec ew fd (eWs ws) la p.1 p.2 d hn d1 hmild hjl
      have hbest : ∀ s : List Int, s.length = js.length → RightP js ws s → span js d ≤ span js s := fun s hl hs => spanL_mono (Int.le_refl _) (d4 s hs.2 (right_feas hl hs).2)
      obtain ⟨a, c, b, h26, hfo⟩ := s26 js e ec ew fd (eWs ws) la p.1 p.2 d hn d1 hmild hjl
      by_cases hpr : fd = true ∧ span js d ≥ la
      · obtain ⟨rfl, hge⟩ := hpr
        refine ⟨ew, true, la, T.lst 1 p.1 p.2, orc_of ?_, ⟨hst', ⟨p.1, p.2, rfl⟩, fun h => ⟨h, Int.le_refl _⟩, fun s hl hs => ⟨rfl, Int.le_trans hge (hbest s hl hs)⟩⟩⟩
        rw [e19]
        simp only [gd1, hd1, tl1, dr0, dr1, dr2, dr3, dr4, dr5, dr6, bo1, in1, st1, ls1, le1, pt1, fi1, fb1, fs1, ct1, cf1, nt1, nf1, ak0, akT, akF, cdec, cndec, cbeq, cnbeq, ↓reduceIte, beq_self_eq_true, Int.reduceBEq, Int.reduceEq, Bool.and_true, Bool.true_and, Bool.false_and, Bool.and_false, h24, hx, h25, Bool.not_false, Bool.not_true, hge]
      · -- the guard of the cut
        have hgo : ∀ (Y N : Option (List T)), (gdK none (askO (some fd) (Or (.call 25) [AV.t (T.ptr [T.lst 3 e (eJs js), T.lst 3 ew (eWs ws), tb fd, ti la, T.lst 1 p.1 p.2]), lst ec d] [])) fun l =>
            gdK (some fd) l.head? fun x => gdK (some fd) (T.int? .i64 x) fun n => bif (bif fd then decide (n ≥ la) else false) then Y else N) = N := by
          intro Y N
          cases fd with
          | true =>
            have hng : ¬ span js d ≥ la := fun h => hpr ⟨rfl, h⟩
            simp only [gd1, hd1, tl1, dr0, dr1, dr2, dr3, dr4, dr5, dr6, bo1, in1, st1, ls1, le1, pt1, fi1, fb1, fs1, ct1, cf1, nt1, nf1, ak0, akT, akF, cdec, cndec, cbeq, cnbeq, ↓reduceIte, beq_self_eq_true, Int.reduceBEq, Int.reduceEq, Bool.and_true, Bool.true_and, Bool.false_and, Bool.and_false, h25, hng]
          | false => simp only [gd1, hd1, tl1, dr0, dr1, dr2, dr3, dr4, dr5, dr6, bo1, in1, st1, ls1, le1, pt1, fi1, fb1, fs1, ct1, cf1, nt1, nf1, ak0, akT, akF, cdec, cndec, cbeq, cnbeq, ↓reduceIte, beq_self_eq_true, Int.reduceBEq, Int.reduceEq, Bool.and_true, Bool.true_and, Bool.false_and, Bool.and_false, gdF]
        cases b with
        | false =>
          have hright : RightP js ws0 d := ⟨fun i hi => ⟨by have := d3 i (by omega); rw [froms_at] at this; exact this, fun k hk => hfo.2 rfl i k hi hk⟩, fun w hw => d2 w (hsub w hw)⟩
          refine ⟨ew, true, span js d, T.lst 1 ec (enc d), orc_of ?_, ⟨fun _ => ⟨ec, d, rfl, d1, hright, hmild, rfl⟩, ⟨ec, _, rfl⟩, fun h => ⟨rfl, ?_⟩, fun s hl hs => ⟨rfl, hbest s hl hs⟩⟩⟩
          · rw [e19]
            simp only [gd1, hd1, tl1, dr0, dr1, dr2, dr3, dr4, dr5, dr6, bo1, in1, st1, ls1, le1, pt1, fi1, fb1, fs1, ct1, cf1, nt1, nf1, ak0, akT, akF, cdec, cndec, cbeq, cnbeq, ↓reduceIte, beq_self_eq_true, Int.reduceBEq, Int.reduceEq, Bool.and_true, Bool.true_and, Bool.false_and, Bool.and_false, h24, hx, Bool.not_false, Bool.not_true]
            refine (hgo _ _).trans ?_
            simp only [gd1, hd1, tl1, dr0, dr1, dr2, dr3, dr4, dr5, dr6, bo1, in1, st1, ls1, le1, pt1, fi1, fb1, fs1, ct1, cf1, nt1, nf1, ak0, akT, akF, cdec, cndec, cbeq, cnbeq, ↓reduceIte, beq_self_eq_true, Int.reduceBEq, Int.reduceEq, Bool.and_true, Bool.true_and, Bool.false_and, Bool.and_false, h26, h25, Bool.not_false]
          · rcases Int.lt_or_le (span js d) la with h' | h'
            · omega
            · exact (hpr ⟨h, h'⟩).elim
        | true =>
          obtain ⟨i', k', rfl, rfl, hki, hin, hov⟩ := hfo.1 rfl
          let w1 : W := ⟨k', i', (jat js k').l⟩
          let w2 : W := ⟨i', k', (jat js i').l⟩
          have bi := hjl i'; have bk := hjl k'
          have q1 : (0 ≤ w1.a ∧ w1.a < (js.length : Int)) ∧ (0 ≤ w1.b ∧ w1.b < (js.length : Int)) ∧ -200 ≤ w1.y ∧ w1.y ≤ 200 := ⟨⟨by simp only [w1]; omega, by simp only [w1]; omega⟩, ⟨by simp only [w1]; omega, by simp only [w1]; omega⟩, by simp only [w1]; omega, by simp only [w1]; omega⟩
          have q2 : (0 ≤ w2.a ∧ w2.a < (js.length : Int)) ∧ (0 ≤ w2.b ∧ w2.b < (js.length : Int)) ∧ -200 ≤ w2.y ∧ w2.y ≤ 200 := ⟨⟨by simp only [w2]; omega, by simp only [w2]; omega⟩, ⟨by simp only [w2]; omega, by simp only [w2]; omega⟩, by simp only [w2]; omega, by simp only [w2]; omega⟩
          have o1 := open_less (w := w1) (by omega) (by omega) hov d2 ⟨w1, List.mem_singleton.2 rfl, .inr ⟨rfl, rfl, rfl⟩⟩
          have o2 := open_less (w := w2) (by omega) (by omega) hov d2 ⟨w2, List.mem_singleton.2 rfl, .inl ⟨rfl, rfl, rfl⟩⟩
          have see1 : ∀ ew, Sees js ws0 e (ws ++ [w1]) ew fd la (T.lst 1 p.1 p.2) := fun ew => ih (ws ++ [w1]) o1 (hr.snoc q1) (fun w hw => List.mem_append_left _ (hsub w hw)) (by simp only [List.length_append, List.length_singleton]; omega) ew fd la _ p (ls1 _ _ _) hst'
          obtain ⟨ew1, fd1, la1, x1, step1, p1⟩ := n19step (e := e) w1 w1 w2 0 (by omega) rfl false ew fd la (T.lst 1 p.1 p.2) ws (by omega) see1
          obtain ⟨ec1, y1, rfl⟩ := p1.lst
          have see2 : ∀ ew, Sees js ws0 e (ws ++ [w2]) ew fd1 la1 (T.lst 1 ec1 y1) := fun ew => ih (ws ++ [w2]) o2 (hr.snoc q2) (fun w hw => List.mem_append_left _ (hsub w hw)) (by simp only [List.length_append, List.length_singleton]; omega) ew fd1 la1 _ (ec1, y1) (ls1 _ _ _) p1.st
          obtain ⟨ew2, fd2, la2, x2, step2, p2⟩ := n19step (e := e) w2 w1 w2 1 (by omega) rfl false ew1 fd1 la1 _ ws (by omega) see2
          have hnode := step1 _ (step2 _ (n19two w1 w2 false ew2 fd2 la2 x2 ws))
          refine ⟨ew2, fd2, la2, x2, orc_of ?_, ⟨p2.st, p2.lst, fun h => ?_, fun s hl hs => ?_⟩⟩
          · rw [e19]
            have hgk := eJs_nat (js := js) (k := k') (by omega)
            have hgi := eJs_nat (js := js) (k := i') (by omega)
            have k0 : (0 : Int) ≤ (k' : Int) := by omega
            have i0 : (0 : Int) ≤ (i' : Int) := by omega
            have kl : (k' : Int) < (js.length : Int) := by omega
            have il : (i' : Int) < (js.length : Int) := by omega
            simp only [gd1, hd1, tl1, dr0, dr1, dr2, dr3, dr4, dr5, dr6, bo1, in1, st1, ls1, le1, pt1, fi1, fb1, fs1, ct1, cf1, nt1, nf1, ak0, akT, akF, cdec, cndec, cbeq, cnbeq, ↓reduceIte, beq_self_eq_true, Int.reduceBEq, Int.reduceEq, Bool.and_true, Bool.true_and, Bool.false_and, Bool.and_false, h24, hx, Bool.not_false, Bool.not_true]
            refine (hgo _ _).trans ?_
            simp only [gd1, hd1, tl1, dr0, dr1, dr2, dr3, dr4, dr5, dr6, bo1, in1, st1, ls1, le1, pt1, fi1, fb1, fs1, ct1, cf1, nt1, nf1, ak0, akT, akF, cdec, cndec, cbeq, cnbeq, ↓reduceIte, beq_self_eq_true, Int.reduceBEq, Int.reduceEq, Bool.and_true, Bool.true_and, Bool.false_and, Bool.and_false, h26, Bool.not_true, eJs_len, hgk, hgi, k0, i0, kl, il, and_self]
            exact hnode
          · obtain ⟨a1, a2⟩ := p1.keep h
            obtain ⟨b1, b2⟩ := p2.keep a1
            exact ⟨b1, Int.le_trans b2 a2⟩
          · -- one of the two ways
            have hno := (hs.1 i' hin).2 k' hki
            have hriv : Riv (jat js i') (jat js k') := hov.1.1
            have : at' s i' + (jat js i').l ≤ at' s k' ∨ at' s k' + (jat js k').l ≤ at' s i' := by
              rcases Int.lt_or_le (at' s k') (at' s i' + (jat js i').l) with h1 | h1
              · rcases Int.lt_or_le (at' s i') (at' s k' + (jat js k').l) with h2 | h2
                · exact (hno ⟨⟨hriv, h1⟩, h2⟩).elim
                · exact .inr h2
              · exact .inl h1
            rcases this with h1 | h1
            · refine p2.best s hl ⟨hs.1, fun u hu => ?_⟩
              rcases List.mem_append.1 hu with hu | hu
              · exact hs.2 u hu
              · simp only [List.mem_singleton] at hu; subst hu; exact h1
            · obtain ⟨c1, c2⟩ := p1.best s hl ⟨hs.1, fun u hu => by
                rcases List.mem_append.1 hu with hu | hu
                · exact hs.2 u hu
                · simp only [List.mem_singleton] at hu; subst hu; exact h1⟩
              obtain ⟨b1, b2⟩ := p2.keep c1
              exact ⟨b1, Int.le_trans b2 c2⟩
theorem search_ok (hn : js.length ≤ 8) (hj : ∀ i : Int, 0 ≤ (jat js i).l ∧ (jat js i).l ≤ 200 ∧ 0 ≤ (jat js i).f ∧ (jat js i).f ≤ 200) : ∀ (F : Nat) (ws : List W), open' js ws < F → Plan js ws0 e ws
  | 0, ws, h => by omega
  | F + 1, ws, h => search_step hn hj ws fun ws' h' => search_ok hn hj F ws' (by omega)
end

/-! ### Do -/
theorem s18 (ws : List W) (e : Bool) (hl : ws.length ≤ 1000) : ∃ x, Or (.call 18) [LW e ws] [] = some [x] ∧ ∃ e', x.lst? 3 = some (e', eWs (if e = true then [] else ws)) := by
  cases e with
  | true => exact ⟨T.emp true, orc_of (by rw [e18]; simp only [gd1, hd1, tl1, dr0, dr1, dr2, dr3, dr4, dr5, dr6, bo1, in1, st1, ls1, le1, pt1, fi1, fb1, fs1, ct1, cf1, nt1, nf1, ak0, akT, akF, cdec, cndec, cbeq, cnbeq, ↓reduceIte, beq_self_eq_true, Int.reduceBEq, Int.reduceEq, Bool.and_true, Bool.true_and, Bool.false_and, Bool.and_false]), true, rfl⟩
  | false =>
    refine ⟨T.lst 3 false (eWs ws), orc_of ?_, false, ls1 _ _ _⟩
    rw [e18]
    have : small 24 (0 + (eWs ws).length) = some () := small_ok (by rw [eWs_len]; omega)
    simp only [gd1, hd1, tl1, dr0, dr1, dr2, dr3, dr4, dr5, dr6, bo1, in1, st1, ls1, le1, pt1, fi1, fb1, fs1, ct1, cf1, nt1, nf1, ak0, akT, akF, cdec, cndec, cbeq, cnbeq, ↓reduceIte, beq_self_eq_true, Int.reduceBEq, Int.reduceEq, Bool.and_true, Bool.true_and, Bool.false_and, Bool.and_false, this]

/-- What Do answers for jobs that are fine. -/
structure Best (js : List J) (ws : List W) (st la : Int) (d : List Int) : Prop where
  yes : st = 1 ∨ st = 2
  right : st = 1 → d.length = js.length ∧ RightP js ws d ∧ Mild d ∧ la = span js d
  best : ∀ s : List Int, s.length = js.length → RightP js ws s → st = 1 ∧ la ≤ span js s
  none : st = 2 → la = 0 ∧ d = []
theorem s9ok (js : List J) (ws : List W) (e e' : Bool) (n : Int) (he : e' = true → ws = []) (h : (chk js ws).1 = 0) (hn : 0 ≤ n ∧ n ≤ 2000) :
    ∃ st la x d ec, Or (.call 9) [LJ e js, LW e' ws, I n] [] = some [ti st, ti la, x, ti 0, ti 0] ∧ x.lst? 1 = some (ec, enc d) ∧ Best js ws st la d := by
  obtain ⟨G, hw⟩ := chk_good h
  obtain ⟨x0, h18, e0, hx0⟩ := s18 ws e' (by omega)
  rw [show (if e' = true then [] else ws) = ws from by cases e' with
    | true => simp [he rfl]
    | false => simp] at hx0
  have hop : open' js ws ≤ 64 := count_le _ 64
  have hr : InR js.length ws := fun w hw => by have := G.wait w hw; exact ⟨⟨this.1, this.2.1⟩, ⟨this.2.2.1, this.2.2.2.1⟩, this.2.2.2.2⟩
  obtain ⟨ew', fd', la', x', h19, P⟩ := search_ok (js := js) (ws0 := ws) (e := e) G.n G.job 65 ws (by omega) hr (fun w hw => hw) (by omega) e0 false 0 (T.emp true) (true, []) (by simp [T.lst?]) (fun h => by cases h)
  obtain ⟨ec, y, rfl⟩ := P.lst
  have n1 : ¬ n < 0 := by omega
  have n2 : ¬ n > 2000 := by omega
  cases fd' with
  | false =>
    refine ⟨2, 0, T.emp true, [], true, orc_of ?_, by simp [T.lst?, enc], ⟨.inr rfl, fun h => (by cases h), fun s hl hs => ?_, fun _ => ⟨rfl, rfl⟩⟩⟩
    · rw [e9]
      simp only [gd1, hd1, tl1, dr0, dr1, dr2, dr3, dr4, dr5, dr6, bo1, in1, st1, ls1, le1, pt1, fi1, fb1, fs1, ct1, cf1, nt1, nf1, ak0, akT, akF, cdec, cndec, cbeq, cnbeq, ↓reduceIte, beq_self_eq_true, Int.reduceBEq, Int.reduceEq, Bool.and_true, Bool.true_and, Bool.false_and, Bool.and_false, s16, h, n1, n2, h18, hx0, h19, Bool.not_false]
    · have := (P.best s hl hs).1
      cases this
  | true =>
    obtain ⟨ec', d, hxd, d1, d2, d3, d4⟩ := P.st rfl
    simp only [T.lst.injEq, true_and] at hxd
    obtain ⟨rfl, rfl⟩ := hxd
    refine ⟨1, la', T.lst 1 ec (enc d), d, ec, orc_of ?_, ls1 _ _ _, ⟨.inl rfl, fun _ => ⟨d1, d2, d3, d4⟩, fun s hl hs => ⟨rfl, (P.best s hl hs).2⟩, fun h => (by cases h)⟩⟩
    rw [e9]
    simp only [gd1, hd1, tl1, dr0, dr1, dr2, dr3, dr4, dr5, dr6, bo1, in1, st1, ls1, le1, pt1, fi1, fb1, fs1, ct1, cf1, nt1, nf1, ak0, akT, akF, cdec, cndec, cbeq, cnbeq, ↓reduceIte, beq_self_eq_true, Int.reduceBEq, Int.reduceEq, Bool.and_true, Bool.true_and, Bool.false_and, Bool.and_false, s16, h, n1, n2, h18, hx0, h19, Bool.not_true]
theorem s9bad (js : List J) (ws : List W) (e e' : Bool) (n : Int) (h : ¬ (chk js ws).1 = 0) : Or (.call 9) [LJ e js, LW e' ws, I n] [] = some [ti 0, ti 0, T.emp true, ti (chk js ws).1, ti (chk js ws).2] := by
  refine orc_of ?_
  rw [e9]
  simp only [gd1, hd1, tl1, dr0, dr1, dr2, dr3, dr4, dr5, dr6, bo1, in1, st1, ls1, le1, pt1, fi1, fb1, fs1, ct1, cf1, nt1, nf1, ak0, akT, akF, cdec, cndec, cbeq, cnbeq, ↓reduceIte, beq_self_eq_true, Int.reduceBEq, Int.reduceEq, Bool.and_true, Bool.true_and, Bool.false_and, Bool.and_false, s16, h]
theorem s9fuel (js : List J) (ws : List W) (e e' : Bool) (n : Int) (h : (chk js ws).1 = 0) (hn : n < 0 ∨ n > 2000) : Or (.call 9) [LJ e js, LW e' ws, I n] [] = some [ti 0, ti 0, T.emp true, ti 3, ti (-1)] := by
  refine orc_of ?_
  rw [e9]
  simp only [cor, ← Bool.decide_or]
  simp only [gd1, hd1, tl1, dr0, dr1, dr2, dr3, dr4, dr5, dr6, bo1, in1, st1, ls1, le1, pt1, fi1, fb1, fs1, ct1, cf1, nt1, nf1, ak0, akT, akF, cdec, cndec, cbeq, cnbeq, ↓reduceIte, beq_self_eq_true, Int.reduceBEq, Int.reduceEq, Bool.and_true, Bool.true_and, Bool.false_and, Bool.and_false, s16, h, hn]
end Go.Aev.Gen
