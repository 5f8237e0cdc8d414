/- A slice of one's own that is appended to and cut off at its head. -/
import Derived.Test.YtcminppmmhinjaaSepW
import Derived.ArgAppend
namespace Go.Proofs.Ytcminppmmhinjaa
set_option linter.unusedSimpArgs false
set_option linter.unusedVariables false
open Go Go.RowKit
def qI (E : TypeId) (v : Value) (n : Nat) (xs : List Value) : It where
  P e _ w := xs.length = n ∧ ((v = .slice none 0 0 ∧ n = 0) ∨ ∃ g off cap, ∃ cur : Array Value, v = .slice (some ⟨g, off, none⟩) n cap ∧ (n ≤ cap ∧ cap ≤ maxLen) ∧ e g ∧ w.heap[g]? = some (.cells cur E (0, 0)) ∧ off + cap ≤ cur.size ∧ ∀ j u, xs[j]? = some u → cur[off + j]? = some u)
  st := by
    rintro e s w w' ⟨h1, h2⟩ hag
    refine ⟨h1, h2.imp id ?_⟩
    rintro ⟨g, off, cap, cur, hv, hc, he, hg, r⟩
    exact ⟨g, off, cap, cur, hv, hc, he, by rw [hag g (.inl he)]; exact hg, r⟩
  facts _ := True
  ok := fun _ => trivial
section
variable {fr al : Nat → Prop} {w0 w : World} {L : List It} {P : Program} {o : Oper} {a : Act} {K : Act → World → Prop} {Q : Exit → Act → World → Prop}
theorem Own.qNil (st : Own fr al w0 L w) (E : TypeId) : Own fr al w0 (L ++ [qI E (.slice none 0 0) 0 []]) w := st.bare ⟨rfl, .inl ⟨rfl, rfl⟩⟩
theorem Own.qForm (st : Own fr al w0 L w) {i n : Nat} {E : TypeId} {v : Value} {xs : List Value} (hi : L[i]? = some (qI E v n xs)) : xs.length = n ∧ ∃ A c, v = .slice A n c ∧ (n ≤ c ∧ c ≤ maxLen) := by
  obtain ⟨e, s, ⟨h1, h2⟩, _⟩ := st.get hi
  rcases h2 with ⟨rfl, rfl⟩ | ⟨g, off, cap, cur, rfl, hc, _⟩
  · exact ⟨h1, none, 0, rfl, Nat.le_refl _, by simp [maxLen]⟩
  · exact ⟨h1, _, cap, rfl, hc⟩
theorem Own.qAt (st : Own fr al w0 L w) {i n c : Nat} {E : TypeId} {A : Option Addr} {xs : List Value} (hi : L[i]? = some (qI E (.slice A n c) n xs)) (h0 : 0 < n) : ∃ g off, A = some ⟨g, off, none⟩ := by
  obtain ⟨e, s, ⟨h1, h2⟩, _⟩ := st.get hi
  rcases h2 with ⟨_, rfl⟩ | ⟨g, off, cap, cur, hv, hc, _⟩
  · omega
  · injection hv with q1; exact ⟨g, off, q1⟩
theorem Own.qCell (st : Own fr al w0 L w) {i n c g off k : Nat} {E : TypeId} {xs : List Value} {u : Value} (hi : L[i]? = some (qI E (.slice (some ⟨g, off, none⟩) n c) n xs)) (hk : xs[k]? = some u) : w.cell? ⟨g, off + k, none⟩ = some u := by
  obtain ⟨e, s, ⟨h1, h2⟩, _⟩ := st.get hi
  rcases h2 with ⟨hv, _⟩ | ⟨g', off', cap, cur, hv, hc, _, hg, _, hr⟩
  · cases hv
  · cases hv
    have := hr k u hk
    simp [World.cell?, hg, this]
/-- want[1:] -/
theorem Own.qCut (st : Own fr al w0 L w) {i n c g off : Nat} {E : TypeId} {xs : List Value} (hi : L[i]? = some (qI E (.slice (some ⟨g, off, none⟩) n c) n xs)) (h0 : 0 < n) :
    Own fr al w0 (L.set i (qI E (.slice (if c = 1 then some ⟨g, off, none⟩ else some ⟨g, off + 1, none⟩) (n - 1) (c - 1)) (n - 1) xs.tail)) w :=
  st.conv hi fun e s ⟨h1, h2⟩ hd => ⟨e, s, by
    rcases h2 with ⟨hv, _⟩ | ⟨g', off', cap, cur, hv, hc, he, hg, hs, hr⟩
    · cases hv
    · cases hv
      refine ⟨by simp [h1], .inr ?_⟩
      by_cases hc1 : c = 1
      · subst hc1
        have hn : n = 1 := by omega
        subst hn
        have hx : xs.tail = [] := List.eq_nil_of_length_eq_zero (by simp [h1])
        exact ⟨g, off, 0, cur, by simp, ⟨by omega, by omega⟩, he, hg, by omega, fun j u hj => by rw [hx] at hj; simp at hj⟩
      · refine ⟨g, off + 1, c - 1, cur, by rw [if_neg hc1], ⟨by omega, by omega⟩, he, hg, by omega, fun j u hj => ?_⟩
        rw [List.getElem?_tail] at hj
        have := hr (j + 1) u hj
        rw [show off + 1 + j = off + (j + 1) by omega]; exact this, fun _ q => q, fun _ q => .inr q, hd⟩
theorem owp_qAppend {s x : Operand} {t : TypeId} (ho : o.op = .call { callee := .builtin .append, args := #[s, x], argTypes := #[t, t] }) (st : Own fr al w0 L w) (i : Nat) {E : TypeId} {inf : TypeInfo} {z v u : Value} {bytes n b cc : Nat} {xs : List Value}
    (hi : L[i]? = some (qI E v n xs)) (ht : P.underlying t = some (.slice E)) (hinf : P.info? E = some inf) (hz : inf.zero = some z) (hsize : inf.size = 1) (hby : inf.bytes = bytes) (hzs : z.cells.size = 1)
    (hs : a.eval s = v) (hx : a.eval x = .slice (some ⟨b, 0, none⟩) 1 cc) (hu : w.cell? ⟨b, 0, none⟩ = some u) (h1 : u.oneCell' = true) (h63 : n + 1 ≤ maxLen) (hbytes : (n + 1) * bytes ≤ 140737488355328)
    (h : ∀ v' w', Own fr al w0 (L.set i (qI E v' (n + 1) (xs ++ [u]))) w' → K (a.put o.dst v') w') : o.wp P a w K Q := by
  have hnews : ∀ j u', [u][j]? = some u' → w.cell? ((⟨b, 0, none⟩ : Addr).add j) = some u' := fun j u' hj => by
    have : j = 0 := by have := (List.getElem?_eq_some_iff.1 hj).1; simp at this; omega
    subst this
    simp at hj
    subst hj
    rw [addr_add]; exact hu
  have hone : ∀ y ∈ [u], y.oneCell' = true := fun y hy => by rw [List.mem_singleton.1 hy]; exact h1
  obtain ⟨e, sh, ⟨hl, hP⟩, hlo, hd⟩ := st.get hi
  have grow : ∀ v' w', (Builtin.append_ #[t, t] o.type #[v, .slice (some ⟨b, 0, none⟩) 1 cc]).run P w = .ok v' w' → w'.ownsRow w.heap.size E 1 v' (n + 1) (xs ++ [u]) → w.grownBy w' none → o.wp P a w K Q := fun v' w' hr hown hgr => by
    have hext : Ext w w' := (Ext.refl w).grown ⟨hgr, sem_drawn _ _ _ _ hr⟩ (fun k q => by cases q)
    refine owp_run (v := v') (w' := w') (by simp [execOp, ho, resolve, invoke, builtin, hs, hx, hr, Result.andThen]) (h v' w' ?_)
    refine st.upd hi fun e s _ q3 q4 => ⟨fun k => v'.ownBlock = some k, fun _ => False, ⟨by simp [hl], ?_⟩, fun k hk => ⟨(hown.lt k hk).2, .inr (hown.lt k hk).1⟩, fun _ q => q.elim, fun _ _ q => q, MutO.of_ext hext⟩
    rcases hown.2 with ⟨_, h0⟩ | ⟨g, cap, cur, rfl, hb, hg, hc, hm, hsz, htk⟩
    · omega
    · refine .inr ⟨g, 0, cap, cur, rfl, ⟨hc, hm⟩, rfl, hg, by omega, fun j u' hj => ?_⟩
      rw [← htk] at hj
      have hjl := (List.getElem?_eq_some_iff.1 hj).1
      simp at hjl
      rw [List.getElem?_take_of_lt (by omega)] at hj
      simpa using hj
  rcases hP with ⟨rfl, rfl⟩ | ⟨g, off, cap, cur, rfl, hc, he, hg, hsz, hr⟩
  · have hx0 : xs = [] := List.eq_nil_of_length_eq_zero hl
    subst hx0
    obtain ⟨v', w', hrun, r1, r2, _⟩ := run_append_own (P := P) w w.heap.size t o.type E inf z 1 bytes ht hinf hz hsize hby hzs (by decide) (.slice none 0 0) 0 [] (World.ownsRow_nil w _ E 1) ⟨b, 0, none⟩ 1 cc [u] rfl hnews hone h63 hbytes (Nat.le_refl _)
    exact grow v' w' hrun r1 r2
  · by_cases hroom : n + 1 ≤ cap
    · have hcell : w.cell? ⟨g, off + n, none⟩ = cur[off + n]? := by simp [World.cell?, hg]
      have hlt : off + n < cur.size := by omega
      have hrun := run_append_room_cells (P := P) w t o.type E inf ht hinf g off n cap ⟨b, 0, none⟩ 1 cc [u] (by rw [hsize]; rfl) hnews hone hroom (fun j hj => by
        have : j = 0 := by simpa using hj
        subst this
        rw [hsize, Nat.mul_one, Nat.add_zero, hcell, Array.getElem?_eq_getElem hlt]; rfl) (fun j hj => by simp [World.frozen?, hg])
      rw [hsize, Nat.mul_one] at hrun
      refine owp_run (v := .slice (some ⟨g, off, none⟩) (n + 1) cap) (w' := w.setCell ⟨g, off + n, none⟩ u) (by simp [execOp, ho, resolve, invoke, builtin, hs, hx, hrun, Result.andThen, World.setCells]) (h _ _ ?_)
      refine st.upd hi fun e s ⟨_, hP⟩ q3 q4 => ?_
      rcases hP with ⟨hv, _⟩ | ⟨g', off', cap', cur', hv, hc', he', hg', hsz', hr'⟩
      · cases hv
      · cases hv
        rw [hg] at hg'
        cases hg'
        refine ⟨e, s, ⟨by simp [hl], .inr ⟨g, off, cap, cur.setIfInBounds (off + n) u, rfl, ⟨hroom, hc.2⟩, he', ?_, by simpa using hsz, fun j u' hj => ?_⟩⟩, fun k q => ⟨by simpa [World.setCell] using q3 k (.inl q), .inl q⟩, fun k q => ⟨by simpa [World.setCell] using q3 k (.inr q), .inr (.inl q)⟩, q4, MutO.set (MutO.refl _ _) he' _⟩
        · simp only [World.setCell, Array.getElem?_modify, hg]
          simp
        · rcases Nat.lt_or_ge j n with q | q
          · rw [List.getElem?_append_left (by omega)] at hj
            rw [Array.getElem?_setIfInBounds_ne (by omega)]
            exact hr j u' hj
          · rw [List.getElem?_append_right (by omega)] at hj
            have : j = n := by
              have := (List.getElem?_eq_some_iff.1 hj).1
              simp at this; omega
            subst this
            rw [hl] at hj
            simp at hj
            subst hj
            simp [hlt]
    · obtain ⟨v', w', hrun, r1, r2⟩ := run_append_arg_grows (P := P) w t o.type E inf z 1 bytes ht hinf hz hsize hby hzs (by decide) ⟨g, off, none⟩ n cap xs (by omega) (fun j u' hj => by rw [addr_add]; have := hr j u' hj; simp [World.cell?, hg, this]) ⟨b, 0, none⟩ 1 cc [u] rfl hnews (by omega) h63 hbytes
      exact grow v' w' hrun r1 r2
end
end Go.Proofs.Ytcminppmmhinjaa
