/- Formulas: as they lie in memory, and as what they say; plain laws. -/
import Derived.Test.YthjaopojlhdjpaaRoleP
import Derived.Shelf.SlSortCmp.NoneTotal
import Derived.Sort.OwnSorted
import Derived.Test.YthjaopojlhdjpaaSort
import Derived.Laws.MakeOwn
import Derived.Lib.BytesEntry
import Derived.Laws.Externs
namespace Go.Proofs.Ythjaopojlhdjpaa
set_option linter.unusedSimpArgs false
set_option linter.unusedVariables false
open Go Go.RowKit
/-- A formula as it lies in memory: op, k, role, and where its kids lie. -/
inductive Fm | mk (op k : Int) (r : Role) (a : Option Addr) (n c : Nat) (kids : List Fm)
/-- A formula as what it says. -/
inductive Fo | mk (op k : Int) (r : Role) (kids : List Fo)
instance : Inhabited Fm := ⟨.mk 0 0 ([], []) none 0 0 []⟩
instance : Inhabited Fo := ⟨.mk 0 0 ([], []) []⟩
theorem Fm.ind {P : Fm → Prop} (h : ∀ op k r a n c kids, (∀ x ∈ kids, P x) → P (.mk op k r a n c kids)) (f : Fm) : P f :=
  Fm.rec (motive_1 := P) (motive_2 := fun l => ∀ x ∈ l, P x) (fun op k r a n c kids ih => h op k r a n c kids ih) (fun x hx => by simp at hx) (fun x l hx hl y hy => by
    rcases List.mem_cons.1 hy with e | e
    · exact e ▸ hx
    · exact hl y e) f
theorem Fo.ind {P : Fo → Prop} (h : ∀ op k r kids, (∀ x ∈ kids, P x) → P (.mk op k r kids)) (f : Fo) : P f :=
  Fo.rec (motive_1 := P) (motive_2 := fun l => ∀ x ∈ l, P x) (fun op k r kids ih => h op k r kids ih) (fun x hx => by simp at hx) (fun x l hx hl y hy => by
    rcases List.mem_cons.1 hy with e | e
    · exact e ▸ hx
    · exact hl y e) f
def fmC : Fm → List Value
  | .mk op k r a n c _ => [.int .i64 op, .int .i64 k, S r.1, S r.2, .slice a n c]
def fmV : Fm → Value
  | .mk op k r a n c _ => .agg #[.int .i64 op, .int .i64 k, S r.1, S r.2, .slice a n c]
instance fltFm : Flt Fm := ⟨5, fmC, fun x => by cases x; rfl, by decide, fun x u hu => by cases x; simp [fmC] at hu; rcases hu with rfl | rfl | rfl | rfl | rfl <;> rfl⟩
/-- The kids lie where they are said to lie, in blocks of s, all the way down. -/
inductive FmIn (s : Nat → Prop) (w : World) : Fm → Prop
  | mk {op k : Int} {r : Role} {a : Option Addr} {n c : Nat} {kids : List Fm} (hc : n ≤ c ∧ c ≤ maxLen) (hf : Fl w a n kids) (hs : 0 < n → ∀ ad, a = some ad → s ad.block) (hk : ∀ x ∈ kids, FmIn s w x) : FmIn s w (.mk op k r a n c kids)
def FmOk (w : World) (f : Fm) : Prop := FmIn (fun _ => True) w f
section
variable {s s' : Nat → Prop} {w w' : World}
theorem FmIn.cap {op k : Int} {r : Role} {a : Option Addr} {n c : Nat} {kids : List Fm} (h : FmIn s w (.mk op k r a n c kids)) : n ≤ c ∧ c ≤ maxLen := by cases h; assumption
theorem FmIn.fl {op k : Int} {r : Role} {a : Option Addr} {n c : Nat} {kids : List Fm} (h : FmIn s w (.mk op k r a n c kids)) : Fl w a n kids := by cases h; assumption
theorem FmIn.kids {op k : Int} {r : Role} {a : Option Addr} {n c : Nat} {kids : List Fm} (h : FmIn s w (.mk op k r a n c kids)) : ∀ x ∈ kids, FmIn s w x := by cases h; assumption
theorem FmIn.ad {op k : Int} {r : Role} {a : Option Addr} {n c : Nat} {kids : List Fm} (h : FmIn s w (.mk op k r a n c kids)) : 0 < n → ∀ ad, a = some ad → s ad.block := by cases h; assumption
theorem FmIn.to {f : Fm} (h : FmIn s w f) (hs : ∀ b, s b → s' b) : FmIn s' w f := by
  induction h with
  | mk hc hf hs0 _ ih => exact .mk hc hf (fun h0 ad e => hs _ (hs0 h0 ad e)) ih
theorem FmIn.ok {f : Fm} (h : FmIn s w f) : FmOk w f := h.to fun _ _ => trivial
theorem Fl.agree {α : Type} [Flt α] {a : Option Addr} {n : Nat} {xs : List α} (h : Fl w a n xs) (hag : 0 < n → ∀ ad, a = some ad → w'.heap[ad.block]? = w.heap[ad.block]?) : Fl w' a n xs := by
  refine ⟨h.1, fun h0 => ?_⟩
  obtain ⟨b, off, rfl, hc⟩ := h.2 h0
  refine ⟨b, off, rfl, fun i x hi j v hj => ?_⟩
  have hb : w'.heap[b]? = w.heap[b]? := hag h0 ⟨b, off, none⟩ rfl
  rw [World.cell?_of_block (w := w) hb]
  exact hc i x hi j v hj
theorem FmIn.agree {f : Fm} (h : FmIn s w f) (hag : ∀ b, s b → w'.heap[b]? = w.heap[b]?) : FmIn s w' f := by
  induction h with
  | mk hc hf hs0 _ ih => exact .mk hc (hf.agree fun h0 ad e => hag _ (hs0 h0 ad e)) hs0 ih
theorem FmIn.ext {f : Fm} (h : FmIn s w f) (hx : Ext w w') : FmIn s w' f := by
  induction h with
  | mk hc hf hs0 _ ih => exact .mk hc (Arr.ext hf hx) hs0 ih
theorem FmOk.ext {f : Fm} (h : FmOk w f) (hx : Ext w w') : FmOk w' f := FmIn.ext h hx
theorem Fl.lt {α : Type} [Flt α] {a : Option Addr} {n : Nat} {xs : List α} (h : Fl w a n xs) (h0 : 0 < n) (ad : Addr) (had : a = some ad) : ad.block < w.heap.size := by
  obtain ⟨b, off, hb, hc⟩ := h.2 h0
  rw [had] at hb
  cases hb
  have hx : 0 < xs.length := by have := h.1; omega
  have hk := Flt.pos (α := α)
  have h2 : 0 < (Flt.cells xs[0]).length := by rw [Flt.len]; exact hk
  exact World.block_lt_of_cell? w ⟨b, off + 0 * Flt.k α + 0, none⟩ (hc 0 _ (List.getElem?_eq_getElem hx) 0 _ (List.getElem?_eq_getElem h2))
theorem FmIn.lt {f : Fm} (h : FmIn s w f) : FmIn (fun b => b < w.heap.size) w f := by
  induction h with
  | mk hc hf hs0 _ ih => exact .mk hc hf (fun h0 ad e => hf.lt h0 ad e) ih
/-- The cells of a kid. -/
theorem Fl.fm {a : Option Addr} {n : Nat} {xs : List Fm} (h : Fl w a n xs) (h0 : 0 < n) : ∃ b off, a = some ⟨b, off, none⟩ ∧ ∀ (j : Nat) op k r a' n' c' kids', xs[j]? = some (.mk op k r a' n' c' kids') → w.cell? ⟨b, off + j * 5, none⟩ = some (.int .i64 op) ∧ w.cell? ⟨b, off + j * 5 + 1, none⟩ = some (.int .i64 k) ∧ w.cell? ⟨b, off + j * 5 + 2, none⟩ = some (S r.1) ∧ w.cell? ⟨b, off + j * 5 + 3, none⟩ = some (S r.2) ∧ w.cell? ⟨b, off + j * 5 + 4, none⟩ = some (.slice a' n' c') := by
  obtain ⟨b, off, rfl, hc⟩ := h.2 h0
  exact ⟨b, off, rfl, fun j op k r a' n' c' kids' hj => ⟨hc j _ hj 0 _ rfl, hc j _ hj 1 _ rfl, hc j _ hj 2 _ rfl, hc j _ hj 3 _ rfl, hc j _ hj 4 _ rfl⟩⟩
end
/-- A formula as a shared piece of memory; formulas one behind another. -/
def fmI (f : Fm) : It where
  P _ s w := FmIn s w f
  st := fun h hag => h.agree fun b hb => hag b (.inr hb)
  facts _ := True
  ok := fun _ => trivial
def fmsI (l : List Fm) : It where
  P _ s w := ∀ f ∈ l, FmIn s w f
  st := fun h hag f hf => (h f hf).agree fun b hb => hag b (.inr hb)
  facts _ := True
  ok := fun _ => trivial
section
variable {fr al : Nat → Prop} {w0 w : World} {L : List It}
theorem Own.fm (st : Own fr al w0 L w) {i : Nat} {f : Fm} (hi : L[i]? = some (fmI f)) : FmOk w f := let ⟨_, _, h, _⟩ := st.get hi; FmIn.ok h
theorem Own.fms (st : Own fr al w0 L w) {i : Nat} {l : List Fm} (hi : L[i]? = some (fmsI l)) : ∀ f ∈ l, FmOk w f := let ⟨_, _, h, _⟩ := st.get hi; fun f hf => FmIn.ok (h f hf)
theorem Own.fmKid (st : Own fr al w0 L w) {i : Nat} {op k : Int} {r : Role} {a : Option Addr} {n c : Nat} {kids : List Fm} (hi : L[i]? = some (fmI (.mk op k r a n c kids))) {x : Fm} (hx : x ∈ kids) : Own fr al w0 (L ++ [fmI x]) w :=
  st.share hi fun e s h => FmIn.kids h x hx
theorem Own.fmOf (st : Own fr al w0 L w) {i : Nat} {l : List Fm} (hi : L[i]? = some (fmsI l)) {x : Fm} (hx : x ∈ l) : Own fr al w0 (L ++ [fmI x]) w :=
  st.share hi fun e s h => h x hx
theorem Own.addOldFm (st : Own fr al w0 L w) {i : Nat} {W0 : World} (hi : L[i]? = some (oldI W0)) {f : Fm} (h : FmOk W0 f) : Own fr al w0 (L ++ [fmI f]) w :=
  st.share hi fun e s h1 => by
    have key : ∀ g, FmIn (fun b => b < W0.heap.size) W0 g → FmIn s w g := fun g hg => by
      induction hg with
      | mk hc hf hs0 _ ih => exact .mk hc (st.oldFl hi hf) (fun h0 ad e => h1.1 _ (hs0 h0 ad e)) ih
    exact key f (FmIn.lt h)
end
mutual
def Fm.strip : Fm → Fo
  | .mk op k r _ _ _ kids => .mk op k r (stripL kids)
def stripL : List Fm → List Fo
  | [] => []
  | x :: l => x.strip :: stripL l
end
theorem stripL_eq : ∀ l : List Fm, stripL l = l.map Fm.strip
  | [] => rfl
  | x :: l => by rw [stripL, stripL_eq l]; rfl
theorem strip_mk (op k : Int) (r : Role) (a : Option Addr) (n c : Nat) (kids : List Fm) : (Fm.mk op k r a n c kids).strip = .mk op k r (kids.map Fm.strip) := by rw [Fm.strip, stripL_eq]
mutual
def Fo.nodes : Fo → Nat
  | .mk _ _ _ kids => 1 + nodesL kids
def nodesL : List Fo → Nat
  | [] => 0
  | x :: l => x.nodes + nodesL l
end
theorem nodesL_snoc : ∀ (l : List Fo) (x : Fo), nodesL (l ++ [x]) = nodesL l + x.nodes
  | [], x => by simp [nodesL]
  | y :: l, x => by rw [List.cons_append, nodesL, nodesL_snoc l x, nodesL]; omega
theorem nodes_pos (f : Fo) : 1 ≤ f.nodes := by cases f; rw [Fo.nodes]; omega
theorem nodesL_len : ∀ l : List Fo, l.length ≤ nodesL l
  | [] => by simp [nodesL]
  | x :: l => by have := nodesL_len l; have := nodes_pos x; rw [nodesL, List.length_cons]; omega
theorem nodesL_mem : ∀ (l : List Fo) (x : Fo), x ∈ l → x.nodes ≤ nodesL l
  | [], x, h => by simp at h
  | y :: l, x, h => by
    rw [nodesL]
    rcases List.mem_cons.1 h with e | e
    · subst e; omega
    · have := nodesL_mem l x e; omega
theorem nodesL_take : ∀ (l : List Fo) (j : Nat), nodesL (l.take j) ≤ nodesL l
  | [], j => by simp [nodesL]
  | x :: l, 0 => by simp [nodesL]
  | x :: l, j + 1 => by have := nodesL_take l j; rw [List.take_succ_cons, nodesL, nodesL]; omega
mutual
def Fo.deep : Fo → Nat
  | .mk _ _ _ kids => deepL kids + 1
def deepL : List Fo → Nat
  | [] => 0
  | x :: l => max x.deep (deepL l)
end
theorem deepL_snoc : ∀ (l : List Fo) (x : Fo), deepL (l ++ [x]) = max (deepL l) x.deep
  | [], x => by simp [deepL]
  | y :: l, x => by rw [List.cons_append, deepL, deepL_snoc l x, deepL]; omega
theorem deep_nodes (f : Fo) : f.deep ≤ f.nodes := by
  refine Fo.ind (P := fun f => f.deep ≤ f.nodes) (fun op k r kids ih => ?_) f
  rw [Fo.deep, Fo.nodes]
  have : deepL kids ≤ nodesL kids := by
    clear op k r
    induction kids with
    | nil => simp [deepL]
    | cons x l ihl =>
      have h1 := ih x (by simp)
      have h2 := ihl fun y hy => ih y (by simp [hy])
      rw [deepL, nodesL]
      omega
  omega
/-- A node that may be, but for its kids. -/
def nodeR (op k : Int) (r : Role) (n : Nat) : Bool :=
  if op = 1 then roleR r && decide (n = 0) && decide (k = 0)
  else if op = 2 ∨ op = 3 then decide (r = ([], [])) && decide (k = 0)
  else decide (op = 4) && decide (r = ([], [])) && decide (0 ≤ k) && decide (k ≤ (n : Int)) && decide (1 ≤ n)
mutual
def Fo.well : Fo → Bool
  | .mk op k r kids => nodeR op k r kids.length && decide (kids.length ≤ 8) && wellL kids
def wellL : List Fo → Bool
  | [] => true
  | x :: l => x.well && wellL l
end
theorem wellL_all : ∀ l : List Fo, wellL l = l.all Fo.well
  | [] => rfl
  | x :: l => by rw [wellL, wellL_all l]; rfl
/-- Right formulas. -/
def foR (f : Fo) : Bool := decide (f.nodes ≤ 64) && decide (f.deep ≤ 6) && f.well
mutual
def Fo.atoms : Fo → List Role
  | .mk op _ r kids => if op = 1 then [r] else atomsL kids
def atomsL : List Fo → List Role
  | [] => []
  | x :: l => x.atoms ++ atomsL l
end
/-- True, of a right one. -/
def truth (op k : Int) (n m : Nat) : Bool := if op = 2 then decide (m = n) else if op = 3 then decide (0 < m) else decide (k ≤ (m : Int))
mutual
def Fo.holds (is : Role → Bool) : Fo → Bool
  | .mk op k r kids => if op = 1 then is r else truth op k kids.length (holdsL is kids)
def holdsL (is : Role → Bool) : List Fo → Nat
  | [] => 0
  | x :: l => (if x.holds is then 1 else 0) + holdsL is l
end
mutual
def Fo.bytes : Fo → List UInt8
  | .mk op k r kids => numB op.toNat ++ (if op = 1 then roleB r else (if op = 4 then numB k.toNat else []) ++ numB kids.length ++ bytesL kids)
def bytesL : List Fo → List UInt8
  | [] => []
  | x :: l => x.bytes ++ bytesL l
end
theorem bytesL_snoc : ∀ (l : List Fo) (x : Fo), bytesL (l ++ [x]) = bytesL l ++ x.bytes
  | [], x => by simp [bytesL]
  | y :: l, x => by rw [List.cons_append, bytesL, bytesL_snoc l x, bytesL, List.append_assoc]
def wrF (f : Fo) : List UInt8 := if foR f = true then f.bytes else []
mutual
def Fo.great : Fo → Nat
  | .mk _ _ r kids => 1 + (r.1.length + r.2.length) / 16 + greatL kids
def greatL : List Fo → Nat
  | [] => 0
  | x :: l => x.great + greatL l
end
theorem greatL_snoc : ∀ (l : List Fo) (x : Fo), greatL (l ++ [x]) = greatL l + x.great
  | [], x => by simp [greatL]
  | y :: l, x => by rw [List.cons_append, greatL, greatL_snoc l x, greatL]; omega
theorem greatL_mem : ∀ (l : List Fo) (x : Fo), x ∈ l → x.great ≤ greatL l
  | [], x, h => by simp at h
  | y :: l, x, h => by
    rw [greatL]
    rcases List.mem_cons.1 h with e | e
    · subst e; omega
    · have := greatL_mem l x e; omega
theorem great_nodes (f : Fo) : f.nodes ≤ f.great := by
  refine Fo.ind (P := fun f => f.nodes ≤ f.great) (fun op k r kids ih => ?_) f
  rw [Fo.great, Fo.nodes]
  have : nodesL kids ≤ greatL kids := by
    clear op k r
    induction kids with
    | nil => simp [nodesL]
    | cons x l ihl =>
      have h1 := ih x (by simp)
      have h2 := ihl fun y hy => ih y (by simp [hy])
      rw [nodesL, greatL]
      omega
  omega
/-- All texts of a formula are at most so long. -/
inductive FoL (b : Nat) : Fo → Prop
  | mk {op k : Int} {r : Role} {kids : List Fo} (h1 : r.1.length ≤ b) (h2 : r.2.length ≤ b) (hk : ∀ x ∈ kids, FoL b x) : FoL b (.mk op k r kids)
theorem great_L (f : Fo) (b : Nat) (h : f.great ≤ b) : FoL (16 * b) f := by
  refine Fo.ind (P := fun f => f.great ≤ b → FoL (16 * b) f) (fun op k r kids ih h => ?_) f h
  rw [Fo.great] at h
  exact .mk (by omega) (by omega) fun x hx => ih x hx (by have := greatL_mem kids x hx; omega)
theorem FoL.role {b : Nat} {op k : Int} {r : Role} {kids : List Fo} (h : FoL b (.mk op k r kids)) : r.1.length ≤ b ∧ r.2.length ≤ b := by cases h; exact ⟨by assumption, by assumption⟩
theorem FoL.kids {b : Nat} {op k : Int} {r : Role} {kids : List Fo} (h : FoL b (.mk op k r kids)) : ∀ x ∈ kids, FoL b x := by cases h; assumption
theorem FoL.atoms {b : Nat} {f : Fo} (h : FoL b f) : ∀ r ∈ f.atoms, r.1.length ≤ b ∧ r.2.length ≤ b := by
  refine Fo.ind (P := fun f => FoL b f → ∀ r ∈ f.atoms, r.1.length ≤ b ∧ r.2.length ≤ b) (fun op k r kids ih h => ?_) f h
  rw [Fo.atoms]
  split
  · intro q hq; rw [List.mem_singleton.1 hq]; exact h.role
  · have hk := h.kids
    clear h
    induction kids with
    | nil => simp [atomsL]
    | cons x l ihl =>
      intro q hq
      rw [atomsL] at hq
      rcases List.mem_append.1 hq with e | e
      · exact ih x (by simp) (hk x (by simp)) q e
      · exact ihl (fun y hy => ih y (by simp [hy])) (fun y hy => hk y (by simp [hy])) q e
end Go.Proofs.Ythjaopojlhdjpaa

namespace Go.Proofs.Ythjaopojlhdjpaa
set_option linter.unusedSimpArgs false
set_option linter.unusedVariables false
open Go Go.RowKit
def Fm.kids : Fm → List Fm
  | .mk _ _ _ _ _ _ l => l
theorem fms_ind {Q : List Fm → Prop} (h : ∀ l, (∀ x ∈ l, Q x.kids) → Q l) (l : List Fm) : Q l := h l fun x _ => Fm.ind (P := fun f => Q f.kids) (fun _ _ _ _ _ _ kids ih => h kids ih) x
theorem map_snoc_strip (l : List Fm) (j : Nat) (h : j < l.length) : (l.take (j + 1)).map Fm.strip = (l.take j).map Fm.strip ++ [l[j].strip] := by
  rw [← List.take_append_getElem h, List.map_append]; rfl
theorem greatL_take : ∀ (l : List Fo) (j : Nat), greatL (l.take j) ≤ greatL l
  | [], j => by simp [greatL]
  | x :: l, 0 => by simp [greatL]
  | x :: l, j + 1 => by have := greatL_take l j; rw [List.take_succ_cons, greatL, greatL]; omega
theorem deepL_take : ∀ (l : List Fo) (j : Nat), deepL (l.take j) ≤ deepL l
  | [], j => by simp [deepL]
  | x :: l, 0 => by simp [deepL]
  | x :: l, j + 1 => by have := deepL_take l j; rw [List.take_succ_cons, deepL, deepL]; omega
theorem greatL_len : ∀ l : List Fo, l.length ≤ greatL l
  | [] => by simp [greatL]
  | x :: l => by have := greatL_len l; have := great_nodes x; have := nodes_pos x; rw [greatL, List.length_cons]; omega
set_option maxRecDepth 100000 in
set_option maxHeartbeats 1000000 in
theorem fmGreat_any (l : List Fm) : ∀ (a : Option Addr) (n c : Nat) (W : World), Fl W a n l → (∀ x ∈ l, FmOk W x) → greatL (l.map Fm.strip) ≤ 2000000000 →
    Calls Try.prog 11 #[.slice a n c] W fun e w' => e = .returned (.int .i64 (greatL (l.map Fm.strip) : Int)) ∧ Ext W w' := by
  induction l using fms_ind
  rename_i l ih
  intro a n c W h hk hs
  have H := Lib.hid h
  have HK := Lib.hid hk
  have HI := Lib.hid ih
  have HN : Hid (n = l.length) := Lib.hid h.1
  have HS := Lib.hid hs
  have hn : n ≤ 2000000000 := by have := greatL_len (l.map Fm.strip); rw [List.length_map] at this; have := h.1; omega
  clear h hk ih hs
  have st := Own.startOld W
  (try simp only [nsl, Value.cells, unB] at st)
  (try clear hc); have hc := st.facts; (try simp only [nfl, nft, Nat.reduceAdd] at hc)
  go_enter Try.func11, Try.ntmps11
  go_wp2_with fail
  go_loopg [3, 8] n (fun q s i wr => ∃ (j g : Nat), j ≤ n ∧ q = n - j ∧ s = .int .i64 (g : Int) ∧ i = .int .i64 (j : Int) ∧ g ≤ 2000000000 ∧ Hid (g = greatL ((l.take j).map Fm.strip)) ∧ Own (fun _ => False) (fun _ => True) W [oldI W] wr)
  case atStart => exact ⟨0, 0, by omega, by omega, rfl, rfl, by omega, Lib.hid (by simp [greatL]), st⟩
  case round =>
    obtain ⟨j, g, hj, rfl, rfl, rfl, hg, HG, st'⟩ := hrel
    clear st hc
    have st := st'
    clear st'
    by_cases hjn : j < n
    · obtain ⟨b, off, ha, hcell⟩ := (st.oldFl (i := 0) get0 H.out).fm (by omega)
      have hjl : j < l.length := by have := HN.out; omega
      have hsn := map_snoc_strip l j hjl
      have hle := greatL_take (l.map Fm.strip) (j + 1)
      rw [← List.map_take, hsn, greatL_snoc, ← HG.out] at hle
      have hsv := HS.out
      have hok := HK.out _ (List.getElem_mem hjl)
      have hih := HI.out _ (List.getElem_mem hjl)
      have hgt := List.getElem?_eq_getElem hjl
      generalize l[j] = x at *
      obtain ⟨op, k, ⟨o, d⟩, a', n', c', kids⟩ := x
      obtain ⟨r0, r1, r2, r3, r4⟩ := hcell j op k (o, d) a' n' c' kids hgt
      simp only [Fm.kids] at hih
      rw [strip_mk, Fo.great] at hle
      simp only at hle r2 r3
      have HC := Lib.hid (fun W' (hx : Ext W W') => hih a' n' c' W' (Arr.ext hok.fl hx) (fun x hx' => (hok.kids x hx').ext hx) (by omega))
      obtain ⟨gk, hgk⟩ : ∃ g, greatL (kids.map Fm.strip) = g := ⟨_, rfl⟩
      rw [hgk] at HC hle
      have HG2 : Hid (g + (1 + (o.length + d.length) / 16 + gk) = greatL ((l.take (j + 1)).map Fm.strip)) := Lib.hid (by rw [hsn, greatL_snoc, ← HG.out, strip_mk, Fo.great, hgk])
      clear hcell hjl hsn hok hih hgt hgk
      subst ha
      unfold S at r2 r3
      have hszz : ∀ s : List UInt8, (⟨s.toArray⟩ : ByteArray).size = s.length := fun s => by simp [ByteArray.size]
      obtain ⟨ol, hol⟩ : ∃ m, o.length = m := ⟨_, rfl⟩
      obtain ⟨dl, hdl⟩ : ∃ m, d.length = m := ⟨_, rfl⟩
      obtain ⟨q16, hq16⟩ : ∃ m, (ol + dl) / 16 = m := ⟨_, rfl⟩
      rw [hol, hdl, hq16] at hle HG2
      have zq : ((ol : Int) + (dl : Int)).tdiv 16 = (q16 : Int) := by rw [Int.tdiv_eq_ediv_of_nonneg (by omega)]; omega
      have zol : ol + dl ≤ 16 * q16 + 15 := by omega
      have zw : IntKind.i64.wrap ((ol : Int) + (dl : Int)) = (ol : Int) + (dl : Int) := IntWalk.i64_in _ ⟨by omega, by omega⟩
      have z1 : IntKind.i64.wrap (1 + (q16 : Int)) = 1 + (q16 : Int) := IntWalk.i64_in _ ⟨by omega, by omega⟩
      have z1b : IntKind.i64.wrap (q16 : Int) = (q16 : Int) := IntWalk.i64_in _ ⟨by omega, by omega⟩
      have z2 : IntKind.i64.wrap (1 + (q16 : Int) + (gk : Int)) = 1 + (q16 : Int) + (gk : Int) := IntWalk.i64_in _ ⟨by omega, by omega⟩
      have z3 : IntKind.i64.wrap ((g : Int) + (1 + (q16 : Int) + (gk : Int))) = ((g + (1 + q16 + gk) : Nat) : Int) := by rw [IntWalk.i64_in _ ⟨by omega, by omega⟩]; omega
      have hll := And.intro hol hdl
      have HLL := Lib.hid hll
      clear hol hdl hq16 hll
      have ho1 : (⟨o.toArray⟩ : ByteArray).size = ol := by rw [hszz]; exact HLL.out.1
      have hd1 : (⟨d.toArray⟩ : ByteArray).size = dl := by rw [hszz]; exact HLL.out.2
      clear hszz
      (try simp only [nsl, Value.cells, unB] at st)
      (try clear hc); have hc := st.facts; (try simp only [nfl, nft, Nat.reduceAdd] at hc)
      go_wp2_with ((first
            | ((with_reducible refine wl_alloc ?_ (fun K hK => ?_)); rfl; refine owp_alloc (o := ⟨some 5, _, _, _, _, _⟩) rfl st ?_; apply Exists.intro; apply Exists.intro; refine ⟨?_, ?_⟩; (focus (first | (go_simp; done) | (go_simp; rfl))); (clear st; intro b5 w hb st; clear hb))
            | ((with_reducible refine wl_store ?_ (fun K hK => ?_)); rfl; refine owp_store rfl st ?_; apply Exists.intro; apply Exists.intro; refine ⟨?_, ?_, ?_⟩; (focus (go_simp; try rfl)); (focus (go_simp; try rfl)); (first | (with_reducible refine ⟨0, _, _, _, _, get0, rfl, rfl, ?_, ?_, ?_, ?_⟩) | (with_reducible refine ⟨1, _, _, _, _, get1, rfl, rfl, ?_, ?_, ?_, ?_⟩) | (with_reducible refine ⟨2, _, _, _, _, get2, rfl, rfl, ?_, ?_, ?_, ?_⟩) | (with_reducible refine ⟨3, _, _, _, _, get3, rfl, rfl, ?_, ?_, ?_, ?_⟩)); (kernel_rfl); (simp [Value.cells]); (rfl); (clear st; intro w st))); (try simp only [nsl, Value.cells, unB] at st); (try clear hc); have hc := st.facts; (try simp only [nfl, nft, Nat.reduceAdd] at hc))
      refine Rg4.wp_region4 (Rel := Ext) #[0, 0, 2, 6, 14, 0, 32, 96, 224, 510, 1022, 2046, 0, 4096, 12288, 32766, 65535, 131071]
        [(14, .val (.int .i64 (gk : Int)))] [] [3, 7, 13] (fun _ => True) [0, 1, 2, 3, 4, 5, 6, 7, 8, 9, 10, 11, 12, 13, 14, 15, 16, 17] (by kernel_rfl) (by kernel_rfl) (by kernel_rfl) (by kernel_rfl) Ext.refl (fun _ _ _ => Ext.trans) (show Rg4.PB _ by repeat (first | with_reducible exact Rg4.pb_body | with_reducible exact Rg4.pb_bodyD rfl | with_reducible refine Rg4.pb_then ?_ | with_reducible refine Rg4.pb_inBlock ?_ | with_reducible refine Rg4.pb_noGoto ?_)) (trivial) ?_
      replace st := st.drew
      change Rg4.wp4 _ _ _ _ _ _ _ _ _ (World.drew _) _ _
      generalize World.drew _ = w at st ⊢
      (try clear hc); have hc := st.facts; (try simp only [nfl, nft, Nat.reduceAdd] at hc)
      iterate 3 (refine Rg4.w4_any (Rg4.want_none rfl) rfl ?_; apply Exists.intro; refine ⟨fun w' => ?_, ?_⟩; (focus (first | (go_simp; done) | (go_simp; first | rfl | (rw [if_neg] <;> first | rfl | omega) | (rw [if_pos] <;> first | rfl | omega)))); (try simp only [Rg4.nrm]))
      (refine Rg4.w4_read (Rg4.want_none rfl) rfl rfl ?_; apply Exists.intro; refine ⟨fun w' hw' hcl' => ?_, ?_⟩; focus (have st' := st.ext hw'; have hc' := st'.facts; (try simp only [nfl, nft, Nat.reduceAdd] at hc'); (focus (first | (go_simp; done) | (go_simp; first | rfl | (rw [if_neg] <;> first | rfl | omega) | (rw [if_pos] <;> first | rfl | omega))))); (try simp only [Rg4.nrm]))
      iterate 3 (refine Rg4.w4_any (Rg4.want_none rfl) rfl ?_; apply Exists.intro; refine ⟨fun w' => ?_, ?_⟩; (focus (first | (go_simp; done) | (go_simp; first | rfl | (rw [if_neg] <;> first | rfl | omega) | (rw [if_pos] <;> first | rfl | omega)))); (try simp only [Rg4.nrm]))
      (refine Rg4.w4_read (Rg4.want_none rfl) rfl rfl ?_; apply Exists.intro; refine ⟨fun w' hw' hcl' => ?_, ?_⟩; focus (have st' := st.ext hw'; have hc' := st'.facts; (try simp only [nfl, nft, Nat.reduceAdd] at hc'); (focus (first | (go_simp; done) | (go_simp; first | rfl | (rw [if_neg] <;> first | rfl | omega) | (rw [if_pos] <;> first | rfl | omega))))); (try simp only [Rg4.nrm]))
      iterate 5 (refine Rg4.w4_any (Rg4.want_none rfl) rfl ?_; apply Exists.intro; refine ⟨fun w' => ?_, ?_⟩; (focus (first | (go_simp; done) | (go_simp; first | rfl | (rw [if_neg] <;> first | rfl | omega) | (rw [if_pos] <;> first | rfl | omega)))); (try simp only [Rg4.nrm]))
      (refine Rg4.w4_read (Rg4.want_none rfl) rfl rfl ?_; apply Exists.intro; refine ⟨fun w' hw' hcl' => ?_, ?_⟩; focus (have st' := st.ext hw'; have hc' := st'.facts; (try simp only [nfl, nft, Nat.reduceAdd] at hc'); (focus (first | (go_simp; done) | (go_simp; first | rfl | (rw [if_neg] <;> first | rfl | omega) | (rw [if_pos] <;> first | rfl | omega))))); (try simp only [Rg4.nrm]))
      refine Rg4.w4_some (Rg4.want_none rfl) rfl (fun w' hw' hcl' _ => ?_) ?_
      · refine Rg.relAt_call (by go_simp; exact ⟨rfl, rfl⟩) ?_
        have st' := st.ext hw'
        refine (HC.out _ st'.ext0).mono ?_
        rintro en w'' ⟨rfl, hx⟩
        exact ⟨_, rfl, hx, trivial, rfl⟩
      rintro v ⟨_, _, _, rfl⟩
      (try simp only [Rg4.nrm])
      iterate 3 (refine Rg4.w4_any (Rg4.want_none rfl) rfl ?_; apply Exists.intro; refine ⟨fun w' => ?_, ?_⟩; (focus (first | (go_simp; done) | (go_simp; first | rfl | (rw [if_neg] <;> first | rfl | omega) | (rw [if_pos] <;> first | rfl | omega)))); (try simp only [Rg4.nrm]))
      refine Rg4.w4_nil (fun w' hw' hcl' _ => ?_); replace st := st.ext hw'; clear hw' hcl'; (try clear hc); have hc := st.facts; (try simp only [nfl, nft, Nat.reduceAdd] at hc)
      go_wp2_with fail
      have st' := st.keep [0] (by decide) (by simp)
      go_roundg (n - (j + 1))
      case measure => omega
      case rel => exact ⟨j + 1, g + (1 + q16 + gk), by omega, rfl, by go_num, by go_num, by omega, HG2, by simpa [pick] using st'⟩
    · obtain rfl : j = n := by omega
      have htk : greatL (l.map Fm.strip) = g := by rw [HG.out, List.take_of_length_le (by have := HN.out; omega)]
      have HE := Lib.hid htk
      clear htk
      go_wp2_with fail
      go_ret
      exact ⟨by rw [HE.out]; rfl, st.ext0⟩
/-- What a count up to a number is. -/
def CntIs (most N D n d : Nat) : Prop := n ≤ N ∧ d ≤ D ∧ (N ≤ most → n = N ∧ d = D) ∧ (most < N → most < n)
theorem CntIs.step {most N D n d K E m e : Nat} (h : CntIs most N D n d) (hn : n ≤ most) (hk : CntIs (most - n) K E m e) : CntIs most (N + K) (max D E) (n + m) (max d e) := by
  unfold CntIs at *
  obtain ⟨h1, h2, h3, h4⟩ := h
  obtain ⟨k1, k2, k3, k4⟩ := hk
  have hN : N ≤ most := by omega
  obtain ⟨e1, e2⟩ := h3 hN
  refine ⟨by omega, by omega, fun q => ?_, fun q => by omega⟩
  obtain ⟨f1, f2⟩ := k3 (by omega)
  subst e1 e2 f1 f2
  exact ⟨rfl, rfl⟩
set_option maxRecDepth 100000 in
set_option maxHeartbeats 1000000 in
theorem fmCount_any (f : Fm) : ∀ (W : World) (most : Nat), FmOk W f → f.strip.nodes ≤ 1000000000 → most ≤ 1000000000 →
    Calls Try.prog 111 #[fmV f, .int .i64 (most : Int)] W fun e w' => ∃ n d, e = .returned (.tuple #[.int .i64 ((n : Nat) : Int), .int .i64 ((d : Nat) : Int)]) ∧ CntIs most f.strip.nodes f.strip.deep n d ∧ Ext W w' := by
  induction f using Fm.ind
  rename_i op k r a n c kids ih
  intro W most hok hs hm
  obtain ⟨o, d⟩ := r
  rw [strip_mk] at *
  rw [Fo.nodes] at hs ⊢
  rw [Fo.deep]
  have H := Lib.hid hok.fl
  have HK := Lib.hid hok.kids
  have HI := Lib.hid ih
  have HN : Hid (n = kids.length) := Lib.hid hok.fl.1
  have hn : n ≤ 1000000000 := by have := nodesL_len (kids.map Fm.strip); rw [List.length_map] at this; have := hok.fl.1; omega
  have hdn : deepL (kids.map Fm.strip) ≤ 1000000000 := by have := deep_nodes (.mk 0 0 ([], []) (kids.map Fm.strip)); rw [Fo.deep, Fo.nodes] at this; omega
  have HS := Lib.hid hs
  have HDN := Lib.hid hdn
  clear hok ih hs hdn
  have st := Own.startOld W
  unfold fmV S
  simp only
  (try simp only [nsl, Value.cells, unB] at st)
  (try clear hc); have hc := st.facts; (try simp only [nfl, nft, Nat.reduceAdd] at hc)
  go_enter Try.func111, Try.ntmps111
  go_wp2_with ((first
        | ((with_reducible refine wl_box ?_ (fun K hK => ?_)); rfl; refine owp_box (o := ⟨some 2, _, _, _, _, _⟩) rfl st ?_; apply Exists.intro; refine ⟨?_, ?_⟩; (focus (go_simp; try rfl)); (clear st; intro b2 w hb st; clear hb))
        | ((with_reducible refine wl_alloc ?_ (fun K hK => ?_)); rfl; refine owp_alloc (o := ⟨some 9, _, _, _, _, _⟩) rfl st ?_; apply Exists.intro; apply Exists.intro; refine ⟨?_, ?_⟩; (focus (first | (go_simp; done) | (go_simp; rfl))); (clear st; intro b9 w hb st; clear hb))
        | ((with_reducible refine wl_store ?_ (fun K hK => ?_)); rfl; refine owp_store rfl st ?_; apply Exists.intro; apply Exists.intro; refine ⟨?_, ?_, ?_⟩; (focus (go_simp; try rfl)); (focus (go_simp; try rfl)); (first | (with_reducible refine ⟨0, _, _, _, _, get0, rfl, rfl, ?_, ?_, ?_, ?_⟩) | (with_reducible refine ⟨1, _, _, _, _, get1, rfl, rfl, ?_, ?_, ?_, ?_⟩) | (with_reducible refine ⟨2, _, _, _, _, get2, rfl, rfl, ?_, ?_, ?_, ?_⟩) | (with_reducible refine ⟨3, _, _, _, _, get3, rfl, rfl, ?_, ?_, ?_, ?_⟩)); (kernel_rfl); (simp [Value.cells]); (rfl); (clear st; intro w st))); (try simp only [nsl, Value.cells, unB] at st); (try clear hc); have hc := st.facts; (try simp only [nfl, nft, Nat.reduceAdd] at hc))
  go_loopg [6, 7, 15] n (fun q s t i wr => ∃ (j g e : Nat), j ≤ n ∧ q = n - j ∧ s = .int .i64 (g : Int) ∧ t = .int .i64 (e : Int) ∧ i = .int .i64 (j : Int) ∧ g ≤ 1000000000 ∧ e ≤ 1000000000 ∧ Hid (CntIs most (1 + nodesL ((kids.take j).map Fm.strip)) (deepL ((kids.take j).map Fm.strip)) g e) ∧ Own (fun _ => False) (fun _ => True) W [oldI W] wr)
  case atStart => exact ⟨0, 1, 0, by omega, by omega, rfl, rfl, rfl, by omega, by omega, Lib.hid (by simp only [List.take_zero, List.map_nil, nodesL, deepL]; unfold CntIs; exact ⟨by omega, by omega, fun _ => ⟨rfl, rfl⟩, fun _ => by omega⟩), by have st' := st.keep [0] (by decide) (by simp); simpa [pick] using st'⟩
  case round =>
    obtain ⟨j, g, e, hj, rfl, rfl, rfl, rfl, hg, he, HG, st'⟩ := hrel
    clear st hc
    have st := st'
    clear st'
    by_cases hjn : j < n
    · obtain ⟨b, off, ha, hcell⟩ := (st.oldFl (i := 0) get0 H.out).fm (by omega)
      have hjl : j < kids.length := by have := HN.out; omega
      have hsn := map_snoc_strip kids j hjl
      have hle := nodesL_take (kids.map Fm.strip) (j + 1)
      have hld := deepL_take (kids.map Fm.strip) (j + 1)
      rw [← List.map_take, hsn, nodesL_snoc] at hle
      rw [← List.map_take, hsn, deepL_snoc] at hld
      have hsv := HS.out
      have hdv := HDN.out
      have hok := HK.out _ (List.getElem_mem hjl)
      have hih := HI.out _ (List.getElem_mem hjl)
      have hgt := List.getElem?_eq_getElem hjl
      generalize kids[j] = x at *
      by_cases hgm : most < g
      · have HE : Hid (CntIs most (1 + nodesL (kids.map Fm.strip)) (deepL (kids.map Fm.strip) + 1) g (e + 1)) := Lib.hid (by
          have h1 := HG.out
          have h2 := nodesL_take (kids.map Fm.strip) j
          have h3 := deepL_take (kids.map Fm.strip) j
          rw [← List.map_take] at h2 h3
          unfold CntIs at *
          omega)
        obtain ⟨op', k', ⟨o', d'⟩, a', n', c', kids'⟩ := x
        obtain ⟨r0, r1, r2, r3, r4⟩ := hcell j op' k' (o', d') a' n' c' kids' hgt
        clear hcell hjl hsn hle hld hsv hdv hok hih hgt
        subst ha
        unfold S at r2 r3
        simp only at r2 r3
        (try simp only [nsl, Value.cells, unB] at st)
        (try clear hc); have hc := st.facts; (try simp only [nfl, nft, Nat.reduceAdd] at hc)
        go_wp2_with ((first
              | ((with_reducible refine wl_box ?_ (fun K hK => ?_)); rfl; refine owp_box (o := ⟨some 2, _, _, _, _, _⟩) rfl st ?_; apply Exists.intro; refine ⟨?_, ?_⟩; (focus (go_simp; try rfl)); (clear st; intro b2 w hb st; clear hb))
              | ((with_reducible refine wl_alloc ?_ (fun K hK => ?_)); rfl; refine owp_alloc (o := ⟨some 9, _, _, _, _, _⟩) rfl st ?_; apply Exists.intro; apply Exists.intro; refine ⟨?_, ?_⟩; (focus (first | (go_simp; done) | (go_simp; rfl))); (clear st; intro b9 w hb st; clear hb))
              | ((with_reducible refine wl_store ?_ (fun K hK => ?_)); rfl; refine owp_store rfl st ?_; apply Exists.intro; apply Exists.intro; refine ⟨?_, ?_, ?_⟩; (focus (go_simp; try rfl)); (focus (go_simp; try rfl)); (first | (with_reducible refine ⟨0, _, _, _, _, get0, rfl, rfl, ?_, ?_, ?_, ?_⟩) | (with_reducible refine ⟨1, _, _, _, _, get1, rfl, rfl, ?_, ?_, ?_, ?_⟩) | (with_reducible refine ⟨2, _, _, _, _, get2, rfl, rfl, ?_, ?_, ?_, ?_⟩) | (with_reducible refine ⟨3, _, _, _, _, get3, rfl, rfl, ?_, ?_, ?_, ?_⟩)); (kernel_rfl); (simp [Value.cells]); (rfl); (clear st; intro w st))); (try simp only [nsl, Value.cells, unB] at st); (try clear hc); have hc := st.facts; (try simp only [nfl, nft, Nat.reduceAdd] at hc))
        go_ret2
        exact ⟨g, e + 1, by go_num, HE.out, st.ext0⟩
      · have HC := Lib.hid (fun W' (hx : Ext W W') => hih W' (most - g) (hok.ext hx) (by omega) (by omega))
        have hkn : x.strip.nodes ≤ 1000000000 := by omega
        have hkd : x.strip.deep ≤ 1000000000 := by omega
        have HST : Hid (∀ m e', CntIs (most - g) x.strip.nodes x.strip.deep m e' → CntIs most (1 + nodesL ((kids.take (j + 1)).map Fm.strip)) (deepL ((kids.take (j + 1)).map Fm.strip)) (g + m) (max e e') ∧ g + m ≤ 1000000000 ∧ max e e' ≤ 1000000000) := Lib.hid fun m e' hme => by
          have h1 := HG.out.step (by omega) hme
          rw [hsn, nodesL_snoc, deepL_snoc]
          have h2 := HG.out.1
          have h3 := hme.1
          have h4 := hme.2.1
          refine ⟨by rw [← Nat.add_assoc]; exact h1, by omega, by omega⟩
        obtain ⟨op', k', ⟨o', d'⟩, a', n', c', kids'⟩ := x
        obtain ⟨r0, r1, r2, r3, r4⟩ := hcell j op' k' (o', d') a' n' c' kids' hgt
        generalize (Fm.mk op' k' (o', d') a' n' c' kids').strip.nodes = N1 at *
        generalize (Fm.mk op' k' (o', d') a' n' c' kids').strip.deep = D1 at *
        unfold fmV S at HC
        simp only at HC
        clear hcell hjl hsn hle hld hsv hdv hok hih hgt
        subst ha
        unfold S at r2 r3
        simp only at r2 r3
        have zs : IntKind.i64.wrap ((most : Int) - (g : Int)) = ((most - g : Nat) : Int) := by rw [IntWalk.i64_in _ ⟨by omega, by omega⟩]; omega
        have hgm2 : ¬ (most : Int) < (g : Int) := by omega
        (try simp only [nsl, Value.cells, unB] at st)
        (try clear hc); have hc := st.facts; (try simp only [nfl, nft, Nat.reduceAdd] at hc)
        go_wp2_with ((first
              | ((with_reducible refine wl_box ?_ (fun K hK => ?_)); rfl; refine owp_box (o := ⟨some 2, _, _, _, _, _⟩) rfl st ?_; apply Exists.intro; refine ⟨?_, ?_⟩; (focus (go_simp; try rfl)); (clear st; intro b2 w hb st; clear hb))
              | ((with_reducible refine wl_alloc ?_ (fun K hK => ?_)); rfl; refine owp_alloc (o := ⟨some 9, _, _, _, _, _⟩) rfl st ?_; apply Exists.intro; apply Exists.intro; refine ⟨?_, ?_⟩; (focus (first | (go_simp; done) | (go_simp; rfl))); (clear st; intro b9 w hb st; clear hb))
              | ((with_reducible refine wl_store ?_ (fun K hK => ?_)); rfl; refine owp_store rfl st ?_; apply Exists.intro; apply Exists.intro; refine ⟨?_, ?_, ?_⟩; (focus (go_simp; try rfl)); (focus (go_simp; try rfl)); (first | (with_reducible refine ⟨0, _, _, _, _, get0, rfl, rfl, ?_, ?_, ?_, ?_⟩) | (with_reducible refine ⟨1, _, _, _, _, get1, rfl, rfl, ?_, ?_, ?_, ?_⟩) | (with_reducible refine ⟨2, _, _, _, _, get2, rfl, rfl, ?_, ?_, ?_, ?_⟩) | (with_reducible refine ⟨3, _, _, _, _, get3, rfl, rfl, ?_, ?_, ?_, ?_⟩)); (kernel_rfl); (simp [Value.cells]); (rfl); (clear st; intro w st))); (try simp only [nsl, Value.cells, unB] at st); (try clear hc); have hc := st.facts; (try simp only [nfl, nft, Nat.reduceAdd] at hc))
        refine (HC.out _ st.ext0).mono ?_
        rintro en w ⟨m, e', rfl, hme, hx⟩
        replace st := st.ext hx
        clear hx
        have hq := HST.out m e' hme
        have HQ := Lib.hid hq.1
        have hq2 := hq.2.1
        have hq3 := hq.2.2
        have hme1 : e' ≤ 1000000000 := by have := hme.2.1; omega
        clear hq hme
        (try simp only [nsl, Value.cells, unB] at st)
        (try clear hc); have hc := st.facts; (try simp only [nfl, nft, Nat.reduceAdd] at hc)
        go_wp2_with fail
        have st' := st.keep [0] (by decide) (by simp)
        go_roundg (n - (j + 1))
        case measure => omega
        case rel => exact ⟨j + 1, g + m, max e e', by omega, by omega, by go_num, by go_num, by go_num, hq2, hq3, HQ, by simpa [pick] using st'⟩
    · obtain rfl : j = n := by omega
      have HE : Hid (CntIs most (1 + nodesL (kids.map Fm.strip)) (deepL (kids.map Fm.strip) + 1) g (e + 1)) := Lib.hid (by
        have h1 := HG.out
        rw [List.take_of_length_le (by have := HN.out; omega)] at h1
        unfold CntIs at *
        omega)
      (try simp only [nsl, Value.cells, unB] at st)
      (try clear hc); have hc := st.facts; (try simp only [nfl, nft, Nat.reduceAdd] at hc)
      go_wp2_with fail
      go_ret2
      exact ⟨g, e + 1, by go_num, HE.out, st.ext0⟩
end Go.Proofs.Ythjaopojlhdjpaa

namespace Go.Proofs.Ythjaopojlhdjpaa
set_option linter.unusedSimpArgs false
set_option linter.unusedVariables false
open Go Go.RowKit
@[irreducible] def roleEq (a b : Role) : Bool := decide (a = b)
theorem roleEq_eq (a b : Role) : roleEq a b = decide (a = b) := by unfold roleEq; rfl
@[go_sem high] theorem eqRole (o d o' d' : List UInt8) (w : World) : (Op.equalIn 10000 23 (.agg #[.string ⟨o.toArray⟩, .string ⟨d.toArray⟩]) (.agg #[.string ⟨o'.toArray⟩, .string ⟨d'.toArray⟩])).run Try.prog w = .ok (roleEq (o, d) (o', d')) w := by
  have hS : Try.prog.underlying 23 = some (.struct (Try.prog.fieldsOf 23)) := by kernel_rfl
  rw [show (10000 : Nat) = 9999 + 1 from rfl, run_equalIn_agg w 9999 23 _ _ hS (by kernel_rfl), roleEq_eq]
  simp only [Program.fieldsOf, Try.underlying23]
  go_simp
  by_cases h1 : o = o' <;> by_cases h2 : d = d' <;> simp [h1, h2]
theorem Fl.role {w : World} {a : Option Addr} {n : Nat} {xs : List Role} (h : Fl w a n xs) (h0 : 0 < n) : ∃ b off, a = some ⟨b, off, none⟩ ∧ ∀ j x, xs[j]? = some x → w.cell? ⟨b, off + j * 2, none⟩ = some (S x.1) ∧ w.cell? ⟨b, off + j * 2 + 1, none⟩ = some (S x.2) := by
  obtain ⟨b, off, rfl, hc⟩ := h.2 h0
  exact ⟨b, off, rfl, fun j x hj => ⟨hc j x hj 0 _ rfl, hc j x hj 1 _ rfl⟩⟩
end Go.Proofs.Ythjaopojlhdjpaa

namespace Go.Proofs.Ythjaopojlhdjpaa
set_option linter.unusedSimpArgs false
set_option linter.unusedVariables false
open Go Go.RowKit
set_option maxRecDepth 100000 in
set_option maxHeartbeats 1000000 in
theorem fmSize_any (f : Fm) (W : World) (h : FmOk W f) (hs : f.strip.nodes ≤ 1000000000) :
    Calls Try.prog 73 #[fmV f] W fun e w' => ∃ n d, e = .returned (.tuple #[.int .i64 ((n : Nat) : Int), .int .i64 ((d : Nat) : Int)]) ∧ ((f.strip.nodes ≤ 4096 → n = f.strip.nodes ∧ d = f.strip.deep) ∧ (4096 < f.strip.nodes → n = 0 ∧ d = 0)) ∧ Ext W w' := by
  have HC := Lib.hid (fun W' (hx : Ext W W') => fmCount_any f W' 4096 (h.ext hx) hs (by omega))
  obtain ⟨op, k, ⟨o, d⟩, a, n, c, kids⟩ := f
  generalize (Fm.mk op k (o, d) a n c kids).strip.nodes = N1 at *
  generalize (Fm.mk op k (o, d) a n c kids).strip.deep = D1 at *
  clear h hs
  have st := Own.startOld W
  unfold fmV S at HC ⊢
  simp only at HC ⊢
  rw [show ((4096 : Nat) : Int) = 4096 from rfl] at HC
  (try simp only [nsl, Value.cells, unB] at st)
  (try clear hc); have hc := st.facts; (try simp only [nfl, nft, Nat.reduceAdd] at hc)
  go_enter Try.func73, Try.ntmps73
  go_wp2_with ((((with_reducible refine wl_box ?_ (fun K hK => ?_)); rfl; refine owp_box (o := ⟨some 1, _, _, _, _, _⟩) rfl st ?_; apply Exists.intro; refine ⟨?_, ?_⟩; (focus (go_simp; try rfl)); (clear st; intro b1 w hb st; clear hb))); (try simp only [nsl, Value.cells, unB] at st); (try clear hc); have hc := st.facts; (try simp only [nfl, nft, Nat.reduceAdd] at hc))
  refine (HC.out _ st.ext0).mono ?_
  rintro en w ⟨n1, d1, rfl, hcn, hx⟩
  replace st := st.ext hx
  clear hx
  have HCN := Lib.hid hcn
  clear hcn
  by_cases hb : 4096 < n1
  · have hbi : (4096 : Int) < (n1 : Int) := by omega
    clear hb
    have HB := Lib.hid hbi
    (try simp only [nsl, Value.cells, unB] at st)
    (try clear hc); have hc := st.facts; (try simp only [nfl, nft, Nat.reduceAdd] at hc)
    go_wp2_with ((((with_reducible refine wl_box ?_ (fun K hK => ?_)); rfl; refine owp_box (o := ⟨some 1, _, _, _, _, _⟩) rfl st ?_; apply Exists.intro; refine ⟨?_, ?_⟩; (focus (go_simp; try rfl)); (clear st; intro b1 w hb st; clear hb))); (try simp only [nsl, Value.cells, unB] at st); (try clear hc); have hc := st.facts; (try simp only [nfl, nft, Nat.reduceAdd] at hc))
    go_ret2
    exact ⟨0, 0, rfl, by have h1 := HCN.out; have h2 := HB.out; unfold CntIs at h1; omega, st.ext0⟩
  · have hbi : ¬ (4096 : Int) < (n1 : Int) := by omega
    clear hb
    have HB := Lib.hid hbi
    (try simp only [nsl, Value.cells, unB] at st)
    (try clear hc); have hc := st.facts; (try simp only [nfl, nft, Nat.reduceAdd] at hc)
    go_wp2_with ((((with_reducible refine wl_box ?_ (fun K hK => ?_)); rfl; refine owp_box (o := ⟨some 1, _, _, _, _, _⟩) rfl st ?_; apply Exists.intro; refine ⟨?_, ?_⟩; (focus (go_simp; try rfl)); (clear st; intro b1 w hb st; clear hb))); (try simp only [nsl, Value.cells, unB] at st); (try clear hc); have hc := st.facts; (try simp only [nfl, nft, Nat.reduceAdd] at hc))
    go_ret2
    exact ⟨n1, d1, rfl, by have h1 := HCN.out; have h2 := HB.out; unfold CntIs at h1; omega, st.ext0⟩
set_option maxRecDepth 100000 in
set_option maxHeartbeats 2000000 in
theorem fmNode_any (op k : Int) (o d : List UInt8) (a : Option Addr) (n c : Nat) (W : World) (h1 : o.length ≤ 100000) (h2 : d.length ≤ 100000) :
    Calls Try.prog 114 #[.agg #[.int .i64 op, .int .i64 k, .string ⟨o.toArray⟩, .string ⟨d.toArray⟩, .slice a n c]] W fun e w' => e = .returned (.bool (nodeR op k (o, d) n)) ∧ Ext W w' := by
  have HRo := Lib.hid (fun W => roleRight_any (o, d) W h1 h2)
  unfold rV S at HRo
  simp only at HRo
  clear h1 h2
  have HV : Hid (nodeR op k (o, d) n = (if op = 1 then roleR (o, d) && decide (n = 0) && decide (k = 0) else if op = 2 ∨ op = 3 then roleEq (o, d) ([], []) && decide (k = 0) else decide (op = 4) && roleEq (o, d) ([], []) && decide (0 ≤ k) && decide (k ≤ (n : Int)) && decide (1 ≤ n))) := Lib.hid (by unfold nodeR; rw [roleEq_eq])
  obtain ⟨v, hv⟩ : ∃ v, nodeR op k (o, d) n = v := ⟨_, rfl⟩
  rw [hv] at HV ⊢
  clear hv
  obtain ⟨e, he⟩ : ∃ v, roleEq (o, d) ([], []) = v := ⟨_, rfl⟩
  have heq := eqRole o d [] []
  rw [he] at HV heq
  clear he
  have st := Own.startOld W
  by_cases o1 : op = 1
  · subst o1
    have HV2 := Lib.hid (HV.out.trans (if_pos rfl))
    clear HV heq
    have b1 : ((1 : Int) == 1) = true := rfl
    (try simp only [nsl, Value.cells, unB] at st)
    (try clear hc); have hc := st.facts; (try simp only [nfl, nft, Nat.reduceAdd] at hc)
    go_enter Try.func114, Try.ntmps114
    go_wp2_with ((first
          | ((with_reducible refine wl_box ?_ (fun K hK => ?_)); rfl; refine owp_box (o := ⟨some 1, _, _, _, _, _⟩) rfl st ?_; apply Exists.intro; refine ⟨?_, ?_⟩; (focus (go_simp; try rfl)); (clear st; intro b1 w hb st; clear hb))
          | ((with_reducible refine wl_alloc ?_ (fun K hK => ?_)); rfl; refine owp_alloc (o := ⟨some 3, _, _, _, _, _⟩) rfl st ?_; apply Exists.intro; apply Exists.intro; refine ⟨?_, ?_⟩; (focus (first | (go_simp; done) | (go_simp; rfl))); (clear st; intro b3 w hb st; clear hb))
          | ((with_reducible refine wl_store ?_ (fun K hK => ?_)); rfl; refine owp_store rfl st ?_; apply Exists.intro; apply Exists.intro; refine ⟨?_, ?_, ?_⟩; (focus (go_simp; try rfl)); (focus (go_simp; try rfl)); (first | (with_reducible refine ⟨0, _, _, _, _, get0, rfl, rfl, ?_, ?_, ?_, ?_⟩) | (with_reducible refine ⟨1, _, _, _, _, get1, rfl, rfl, ?_, ?_, ?_, ?_⟩) | (with_reducible refine ⟨2, _, _, _, _, get2, rfl, rfl, ?_, ?_, ?_, ?_⟩) | (with_reducible refine ⟨3, _, _, _, _, get3, rfl, rfl, ?_, ?_, ?_, ?_⟩)); (kernel_rfl); (simp [Value.cells]); (rfl); (clear st; intro w st))); (try simp only [nsl, Value.cells, unB] at st); (try clear hc); have hc := st.facts; (try simp only [nfl, nft, Nat.reduceAdd] at hc))
    refine (HRo.out _).mono ?_
    rintro en w ⟨rfl, hx⟩
    replace st := st.ext hx
    clear hx
    (try clear hc); have hc := st.facts; (try simp only [nfl, nft, Nat.reduceAdd] at hc)
    cases hr : roleR (o, d) with
    | false =>
      have H : Hid (v = false) := Lib.hid (by rw [HV2.out, hr]; rfl)
      clear hr
      go_wp2_with ((first
            | ((with_reducible refine wl_box ?_ (fun K hK => ?_)); rfl; refine owp_box (o := ⟨some 1, _, _, _, _, _⟩) rfl st ?_; apply Exists.intro; refine ⟨?_, ?_⟩; (focus (go_simp; try rfl)); (clear st; intro b1 w hb st; clear hb))
            | ((with_reducible refine wl_alloc ?_ (fun K hK => ?_)); rfl; refine owp_alloc (o := ⟨some 3, _, _, _, _, _⟩) rfl st ?_; apply Exists.intro; apply Exists.intro; refine ⟨?_, ?_⟩; (focus (first | (go_simp; done) | (go_simp; rfl))); (clear st; intro b3 w hb st; clear hb))
            | ((with_reducible refine wl_store ?_ (fun K hK => ?_)); rfl; refine owp_store rfl st ?_; apply Exists.intro; apply Exists.intro; refine ⟨?_, ?_, ?_⟩; (focus (go_simp; try rfl)); (focus (go_simp; try rfl)); (first | (with_reducible refine ⟨0, _, _, _, _, get0, rfl, rfl, ?_, ?_, ?_, ?_⟩) | (with_reducible refine ⟨1, _, _, _, _, get1, rfl, rfl, ?_, ?_, ?_, ?_⟩) | (with_reducible refine ⟨2, _, _, _, _, get2, rfl, rfl, ?_, ?_, ?_, ?_⟩) | (with_reducible refine ⟨3, _, _, _, _, get3, rfl, rfl, ?_, ?_, ?_, ?_⟩)); (kernel_rfl); (simp [Value.cells]); (rfl); (clear st; intro w st))); (try simp only [nsl, Value.cells, unB] at st); (try clear hc); have hc := st.facts; (try simp only [nfl, nft, Nat.reduceAdd] at hc))
      go_ret
      exact ⟨by rw [H.out] <;> rfl, st.ext0⟩
    | true =>
      by_cases n0 : n = 0
      · subst n0
        by_cases k0 : k = 0
        · subst k0
          have H : Hid (v = true) := Lib.hid (by rw [HV2.out, hr]; rfl)
          clear hr
          go_wp2_with ((first
                | ((with_reducible refine wl_box ?_ (fun K hK => ?_)); rfl; refine owp_box (o := ⟨some 1, _, _, _, _, _⟩) rfl st ?_; apply Exists.intro; refine ⟨?_, ?_⟩; (focus (go_simp; try rfl)); (clear st; intro b1 w hb st; clear hb))
                | ((with_reducible refine wl_alloc ?_ (fun K hK => ?_)); rfl; refine owp_alloc (o := ⟨some 3, _, _, _, _, _⟩) rfl st ?_; apply Exists.intro; apply Exists.intro; refine ⟨?_, ?_⟩; (focus (first | (go_simp; done) | (go_simp; rfl))); (clear st; intro b3 w hb st; clear hb))
                | ((with_reducible refine wl_store ?_ (fun K hK => ?_)); rfl; refine owp_store rfl st ?_; apply Exists.intro; apply Exists.intro; refine ⟨?_, ?_, ?_⟩; (focus (go_simp; try rfl)); (focus (go_simp; try rfl)); (first | (with_reducible refine ⟨0, _, _, _, _, get0, rfl, rfl, ?_, ?_, ?_, ?_⟩) | (with_reducible refine ⟨1, _, _, _, _, get1, rfl, rfl, ?_, ?_, ?_, ?_⟩) | (with_reducible refine ⟨2, _, _, _, _, get2, rfl, rfl, ?_, ?_, ?_, ?_⟩) | (with_reducible refine ⟨3, _, _, _, _, get3, rfl, rfl, ?_, ?_, ?_, ?_⟩)); (kernel_rfl); (simp [Value.cells]); (rfl); (clear st; intro w st))); (try simp only [nsl, Value.cells, unB] at st); (try clear hc); have hc := st.facts; (try simp only [nfl, nft, Nat.reduceAdd] at hc))
          go_ret
          exact ⟨by rw [H.out] <;> rfl, st.ext0⟩
        · have H : Hid (v = false) := Lib.hid (by rw [HV2.out, hr]; simp [k0])
          have hk0 : (k == 0) = false := by simpa using k0
          clear hr k0
          go_wp2_with ((first
                | ((with_reducible refine wl_box ?_ (fun K hK => ?_)); rfl; refine owp_box (o := ⟨some 1, _, _, _, _, _⟩) rfl st ?_; apply Exists.intro; refine ⟨?_, ?_⟩; (focus (go_simp; try rfl)); (clear st; intro b1 w hb st; clear hb))
                | ((with_reducible refine wl_alloc ?_ (fun K hK => ?_)); rfl; refine owp_alloc (o := ⟨some 3, _, _, _, _, _⟩) rfl st ?_; apply Exists.intro; apply Exists.intro; refine ⟨?_, ?_⟩; (focus (first | (go_simp; done) | (go_simp; rfl))); (clear st; intro b3 w hb st; clear hb))
                | ((with_reducible refine wl_store ?_ (fun K hK => ?_)); rfl; refine owp_store rfl st ?_; apply Exists.intro; apply Exists.intro; refine ⟨?_, ?_, ?_⟩; (focus (go_simp; try rfl)); (focus (go_simp; try rfl)); (first | (with_reducible refine ⟨0, _, _, _, _, get0, rfl, rfl, ?_, ?_, ?_, ?_⟩) | (with_reducible refine ⟨1, _, _, _, _, get1, rfl, rfl, ?_, ?_, ?_, ?_⟩) | (with_reducible refine ⟨2, _, _, _, _, get2, rfl, rfl, ?_, ?_, ?_, ?_⟩) | (with_reducible refine ⟨3, _, _, _, _, get3, rfl, rfl, ?_, ?_, ?_, ?_⟩)); (kernel_rfl); (simp [Value.cells]); (rfl); (clear st; intro w st))); (try simp only [nsl, Value.cells, unB] at st); (try clear hc); have hc := st.facts; (try simp only [nfl, nft, Nat.reduceAdd] at hc))
          go_ret
          exact ⟨by rw [H.out] <;> rfl, st.ext0⟩
      · have H : Hid (v = false) := Lib.hid (by rw [HV2.out, hr]; simp [n0])
        have hn0 : ((n : Int) == 0) = false := by simp; omega
        clear hr n0
        go_wp2_with ((first
              | ((with_reducible refine wl_box ?_ (fun K hK => ?_)); rfl; refine owp_box (o := ⟨some 1, _, _, _, _, _⟩) rfl st ?_; apply Exists.intro; refine ⟨?_, ?_⟩; (focus (go_simp; try rfl)); (clear st; intro b1 w hb st; clear hb))
              | ((with_reducible refine wl_alloc ?_ (fun K hK => ?_)); rfl; refine owp_alloc (o := ⟨some 3, _, _, _, _, _⟩) rfl st ?_; apply Exists.intro; apply Exists.intro; refine ⟨?_, ?_⟩; (focus (first | (go_simp; done) | (go_simp; rfl))); (clear st; intro b3 w hb st; clear hb))
              | ((with_reducible refine wl_store ?_ (fun K hK => ?_)); rfl; refine owp_store rfl st ?_; apply Exists.intro; apply Exists.intro; refine ⟨?_, ?_, ?_⟩; (focus (go_simp; try rfl)); (focus (go_simp; try rfl)); (first | (with_reducible refine ⟨0, _, _, _, _, get0, rfl, rfl, ?_, ?_, ?_, ?_⟩) | (with_reducible refine ⟨1, _, _, _, _, get1, rfl, rfl, ?_, ?_, ?_, ?_⟩) | (with_reducible refine ⟨2, _, _, _, _, get2, rfl, rfl, ?_, ?_, ?_, ?_⟩) | (with_reducible refine ⟨3, _, _, _, _, get3, rfl, rfl, ?_, ?_, ?_, ?_⟩)); (kernel_rfl); (simp [Value.cells]); (rfl); (clear st; intro w st))); (try simp only [nsl, Value.cells, unB] at st); (try clear hc); have hc := st.facts; (try simp only [nfl, nft, Nat.reduceAdd] at hc))
        go_ret
        exact ⟨by rw [H.out] <;> rfl, st.ext0⟩
  · by_cases o2 : op = 2 ∨ op = 3
    · have HV2 := Lib.hid (HV.out.trans ((if_neg o1).trans (if_pos o2)))
      clear HV HRo
      have hkb : (k == 0) = decide (k = 0) := by by_cases q : k = 0 <;> simp [q]
      obtain ⟨kb, hkb2⟩ : ∃ b, decide (k = 0) = b := ⟨_, rfl⟩
      rw [hkb2] at hkb
      have H : Hid (v = (e && kb)) := Lib.hid (by rw [HV2.out, hkb2])
      clear hkb2 HV2
      rcases o2 with rfl | rfl
      · cases e with
        | false =>
          (try simp only [nsl, Value.cells, unB] at st)
          (try clear hc); have hc := st.facts; (try simp only [nfl, nft, Nat.reduceAdd] at hc)
          go_enter Try.func114, Try.ntmps114
          go_wp2_with ((first
                | ((with_reducible refine wl_box ?_ (fun K hK => ?_)); rfl; refine owp_box (o := ⟨some 1, _, _, _, _, _⟩) rfl st ?_; apply Exists.intro; refine ⟨?_, ?_⟩; (focus (go_simp; try rfl)); (clear st; intro b1 w hb st; clear hb))
                | ((with_reducible refine wl_alloc ?_ (fun K hK => ?_)); rfl; refine owp_alloc (o := ⟨some 3, _, _, _, _, _⟩) rfl st ?_; apply Exists.intro; apply Exists.intro; refine ⟨?_, ?_⟩; (focus (first | (go_simp; done) | (go_simp; rfl))); (clear st; intro b3 w hb st; clear hb))
                | ((with_reducible refine wl_store ?_ (fun K hK => ?_)); rfl; refine owp_store rfl st ?_; apply Exists.intro; apply Exists.intro; refine ⟨?_, ?_, ?_⟩; (focus (go_simp; try rfl)); (focus (go_simp; try rfl)); (first | (with_reducible refine ⟨0, _, _, _, _, get0, rfl, rfl, ?_, ?_, ?_, ?_⟩) | (with_reducible refine ⟨1, _, _, _, _, get1, rfl, rfl, ?_, ?_, ?_, ?_⟩) | (with_reducible refine ⟨2, _, _, _, _, get2, rfl, rfl, ?_, ?_, ?_, ?_⟩) | (with_reducible refine ⟨3, _, _, _, _, get3, rfl, rfl, ?_, ?_, ?_, ?_⟩)); (kernel_rfl); (simp [Value.cells]); (rfl); (clear st; intro w st))); (try simp only [nsl, Value.cells, unB] at st); (try clear hc); have hc := st.facts; (try simp only [nfl, nft, Nat.reduceAdd] at hc))
          go_ret
          exact ⟨by rw [H.out] <;> rfl, st.ext0⟩
        | true =>
          (try simp only [nsl, Value.cells, unB] at st)
          (try clear hc); have hc := st.facts; (try simp only [nfl, nft, Nat.reduceAdd] at hc)
          go_enter Try.func114, Try.ntmps114
          go_wp2_with ((first
                | ((with_reducible refine wl_box ?_ (fun K hK => ?_)); rfl; refine owp_box (o := ⟨some 1, _, _, _, _, _⟩) rfl st ?_; apply Exists.intro; refine ⟨?_, ?_⟩; (focus (go_simp; try rfl)); (clear st; intro b1 w hb st; clear hb))
                | ((with_reducible refine wl_alloc ?_ (fun K hK => ?_)); rfl; refine owp_alloc (o := ⟨some 3, _, _, _, _, _⟩) rfl st ?_; apply Exists.intro; apply Exists.intro; refine ⟨?_, ?_⟩; (focus (first | (go_simp; done) | (go_simp; rfl))); (clear st; intro b3 w hb st; clear hb))
                | ((with_reducible refine wl_store ?_ (fun K hK => ?_)); rfl; refine owp_store rfl st ?_; apply Exists.intro; apply Exists.intro; refine ⟨?_, ?_, ?_⟩; (focus (go_simp; try rfl)); (focus (go_simp; try rfl)); (first | (with_reducible refine ⟨0, _, _, _, _, get0, rfl, rfl, ?_, ?_, ?_, ?_⟩) | (with_reducible refine ⟨1, _, _, _, _, get1, rfl, rfl, ?_, ?_, ?_, ?_⟩) | (with_reducible refine ⟨2, _, _, _, _, get2, rfl, rfl, ?_, ?_, ?_, ?_⟩) | (with_reducible refine ⟨3, _, _, _, _, get3, rfl, rfl, ?_, ?_, ?_, ?_⟩)); (kernel_rfl); (simp [Value.cells]); (rfl); (clear st; intro w st))); (try simp only [nsl, Value.cells, unB] at st); (try clear hc); have hc := st.facts; (try simp only [nfl, nft, Nat.reduceAdd] at hc))
          go_ret
          exact ⟨by rw [H.out] <;> rfl, st.ext0⟩
      · cases e with
        | false =>
          (try simp only [nsl, Value.cells, unB] at st)
          (try clear hc); have hc := st.facts; (try simp only [nfl, nft, Nat.reduceAdd] at hc)
          go_enter Try.func114, Try.ntmps114
          go_wp2_with ((first
                | ((with_reducible refine wl_box ?_ (fun K hK => ?_)); rfl; refine owp_box (o := ⟨some 1, _, _, _, _, _⟩) rfl st ?_; apply Exists.intro; refine ⟨?_, ?_⟩; (focus (go_simp; try rfl)); (clear st; intro b1 w hb st; clear hb))
                | ((with_reducible refine wl_alloc ?_ (fun K hK => ?_)); rfl; refine owp_alloc (o := ⟨some 3, _, _, _, _, _⟩) rfl st ?_; apply Exists.intro; apply Exists.intro; refine ⟨?_, ?_⟩; (focus (first | (go_simp; done) | (go_simp; rfl))); (clear st; intro b3 w hb st; clear hb))
                | ((with_reducible refine wl_store ?_ (fun K hK => ?_)); rfl; refine owp_store rfl st ?_; apply Exists.intro; apply Exists.intro; refine ⟨?_, ?_, ?_⟩; (focus (go_simp; try rfl)); (focus (go_simp; try rfl)); (first | (with_reducible refine ⟨0, _, _, _, _, get0, rfl, rfl, ?_, ?_, ?_, ?_⟩) | (with_reducible refine ⟨1, _, _, _, _, get1, rfl, rfl, ?_, ?_, ?_, ?_⟩) | (with_reducible refine ⟨2, _, _, _, _, get2, rfl, rfl, ?_, ?_, ?_, ?_⟩) | (with_reducible refine ⟨3, _, _, _, _, get3, rfl, rfl, ?_, ?_, ?_, ?_⟩)); (kernel_rfl); (simp [Value.cells]); (rfl); (clear st; intro w st))); (try simp only [nsl, Value.cells, unB] at st); (try clear hc); have hc := st.facts; (try simp only [nfl, nft, Nat.reduceAdd] at hc))
          go_ret
          exact ⟨by rw [H.out] <;> rfl, st.ext0⟩
        | true =>
          (try simp only [nsl, Value.cells, unB] at st)
          (try clear hc); have hc := st.facts; (try simp only [nfl, nft, Nat.reduceAdd] at hc)
          go_enter Try.func114, Try.ntmps114
          go_wp2_with ((first
                | ((with_reducible refine wl_box ?_ (fun K hK => ?_)); rfl; refine owp_box (o := ⟨some 1, _, _, _, _, _⟩) rfl st ?_; apply Exists.intro; refine ⟨?_, ?_⟩; (focus (go_simp; try rfl)); (clear st; intro b1 w hb st; clear hb))
                | ((with_reducible refine wl_alloc ?_ (fun K hK => ?_)); rfl; refine owp_alloc (o := ⟨some 3, _, _, _, _, _⟩) rfl st ?_; apply Exists.intro; apply Exists.intro; refine ⟨?_, ?_⟩; (focus (first | (go_simp; done) | (go_simp; rfl))); (clear st; intro b3 w hb st; clear hb))
                | ((with_reducible refine wl_store ?_ (fun K hK => ?_)); rfl; refine owp_store rfl st ?_; apply Exists.intro; apply Exists.intro; refine ⟨?_, ?_, ?_⟩; (focus (go_simp; try rfl)); (focus (go_simp; try rfl)); (first | (with_reducible refine ⟨0, _, _, _, _, get0, rfl, rfl, ?_, ?_, ?_, ?_⟩) | (with_reducible refine ⟨1, _, _, _, _, get1, rfl, rfl, ?_, ?_, ?_, ?_⟩) | (with_reducible refine ⟨2, _, _, _, _, get2, rfl, rfl, ?_, ?_, ?_, ?_⟩) | (with_reducible refine ⟨3, _, _, _, _, get3, rfl, rfl, ?_, ?_, ?_, ?_⟩)); (kernel_rfl); (simp [Value.cells]); (rfl); (clear st; intro w st))); (try simp only [nsl, Value.cells, unB] at st); (try clear hc); have hc := st.facts; (try simp only [nfl, nft, Nat.reduceAdd] at hc))
          go_ret
          exact ⟨by rw [H.out] <;> rfl, st.ext0⟩
    · have HV2 := Lib.hid (HV.out.trans ((if_neg o1).trans (if_neg o2)))
      clear HV HRo
      have b1 : (op == 1) = false := by simpa using o1
      have b2 : (op == 2) = false := by simp; omega
      have b3 : (op == 3) = false := by simp; omega
      by_cases o4 : op = 4
      · subst o4
        clear b1 b2 b3 o1 o2
        cases e with
        | false =>
          have H : Hid (v = false) := Lib.hid (by rw [HV2.out]; rfl)
          (try simp only [nsl, Value.cells, unB] at st)
          (try clear hc); have hc := st.facts; (try simp only [nfl, nft, Nat.reduceAdd] at hc)
          go_enter Try.func114, Try.ntmps114
          go_wp2_with ((first
                | ((with_reducible refine wl_box ?_ (fun K hK => ?_)); rfl; refine owp_box (o := ⟨some 1, _, _, _, _, _⟩) rfl st ?_; apply Exists.intro; refine ⟨?_, ?_⟩; (focus (go_simp; try rfl)); (clear st; intro b1 w hb st; clear hb))
                | ((with_reducible refine wl_alloc ?_ (fun K hK => ?_)); rfl; refine owp_alloc (o := ⟨some 3, _, _, _, _, _⟩) rfl st ?_; apply Exists.intro; apply Exists.intro; refine ⟨?_, ?_⟩; (focus (first | (go_simp; done) | (go_simp; rfl))); (clear st; intro b3 w hb st; clear hb))
                | ((with_reducible refine wl_store ?_ (fun K hK => ?_)); rfl; refine owp_store rfl st ?_; apply Exists.intro; apply Exists.intro; refine ⟨?_, ?_, ?_⟩; (focus (go_simp; try rfl)); (focus (go_simp; try rfl)); (first | (with_reducible refine ⟨0, _, _, _, _, get0, rfl, rfl, ?_, ?_, ?_, ?_⟩) | (with_reducible refine ⟨1, _, _, _, _, get1, rfl, rfl, ?_, ?_, ?_, ?_⟩) | (with_reducible refine ⟨2, _, _, _, _, get2, rfl, rfl, ?_, ?_, ?_, ?_⟩) | (with_reducible refine ⟨3, _, _, _, _, get3, rfl, rfl, ?_, ?_, ?_, ?_⟩)); (kernel_rfl); (simp [Value.cells]); (rfl); (clear st; intro w st))); (try simp only [nsl, Value.cells, unB] at st); (try clear hc); have hc := st.facts; (try simp only [nfl, nft, Nat.reduceAdd] at hc))
          go_ret
          exact ⟨by rw [H.out] <;> rfl, st.ext0⟩
        | true =>
          by_cases k0 : 0 ≤ k
          · by_cases kn : k ≤ (n : Int)
            · by_cases n1 : 1 ≤ n
              · have H : Hid (v = true) := Lib.hid (by rw [HV2.out]; simp [k0, kn, n1])
                have n1i : (1 : Int) ≤ (n : Int) := by omega
                (try simp only [nsl, Value.cells, unB] at st)
                (try clear hc); have hc := st.facts; (try simp only [nfl, nft, Nat.reduceAdd] at hc)
                go_enter Try.func114, Try.ntmps114
                go_wp2_with ((first
                      | ((with_reducible refine wl_box ?_ (fun K hK => ?_)); rfl; refine owp_box (o := ⟨some 1, _, _, _, _, _⟩) rfl st ?_; apply Exists.intro; refine ⟨?_, ?_⟩; (focus (go_simp; try rfl)); (clear st; intro b1 w hb st; clear hb))
                      | ((with_reducible refine wl_alloc ?_ (fun K hK => ?_)); rfl; refine owp_alloc (o := ⟨some 3, _, _, _, _, _⟩) rfl st ?_; apply Exists.intro; apply Exists.intro; refine ⟨?_, ?_⟩; (focus (first | (go_simp; done) | (go_simp; rfl))); (clear st; intro b3 w hb st; clear hb))
                      | ((with_reducible refine wl_store ?_ (fun K hK => ?_)); rfl; refine owp_store rfl st ?_; apply Exists.intro; apply Exists.intro; refine ⟨?_, ?_, ?_⟩; (focus (go_simp; try rfl)); (focus (go_simp; try rfl)); (first | (with_reducible refine ⟨0, _, _, _, _, get0, rfl, rfl, ?_, ?_, ?_, ?_⟩) | (with_reducible refine ⟨1, _, _, _, _, get1, rfl, rfl, ?_, ?_, ?_, ?_⟩) | (with_reducible refine ⟨2, _, _, _, _, get2, rfl, rfl, ?_, ?_, ?_, ?_⟩) | (with_reducible refine ⟨3, _, _, _, _, get3, rfl, rfl, ?_, ?_, ?_, ?_⟩)); (kernel_rfl); (simp [Value.cells]); (rfl); (clear st; intro w st))); (try simp only [nsl, Value.cells, unB] at st); (try clear hc); have hc := st.facts; (try simp only [nfl, nft, Nat.reduceAdd] at hc))
                go_ret
                exact ⟨by rw [H.out] <;> rfl, st.ext0⟩
              · have H : Hid (v = false) := Lib.hid (by rw [HV2.out]; simp [n1])
                have n1i : ¬ (1 : Int) ≤ (n : Int) := by omega
                clear n1
                (try simp only [nsl, Value.cells, unB] at st)
                (try clear hc); have hc := st.facts; (try simp only [nfl, nft, Nat.reduceAdd] at hc)
                go_enter Try.func114, Try.ntmps114
                go_wp2_with ((first
                      | ((with_reducible refine wl_box ?_ (fun K hK => ?_)); rfl; refine owp_box (o := ⟨some 1, _, _, _, _, _⟩) rfl st ?_; apply Exists.intro; refine ⟨?_, ?_⟩; (focus (go_simp; try rfl)); (clear st; intro b1 w hb st; clear hb))
                      | ((with_reducible refine wl_alloc ?_ (fun K hK => ?_)); rfl; refine owp_alloc (o := ⟨some 3, _, _, _, _, _⟩) rfl st ?_; apply Exists.intro; apply Exists.intro; refine ⟨?_, ?_⟩; (focus (first | (go_simp; done) | (go_simp; rfl))); (clear st; intro b3 w hb st; clear hb))
                      | ((with_reducible refine wl_store ?_ (fun K hK => ?_)); rfl; refine owp_store rfl st ?_; apply Exists.intro; apply Exists.intro; refine ⟨?_, ?_, ?_⟩; (focus (go_simp; try rfl)); (focus (go_simp; try rfl)); (first | (with_reducible refine ⟨0, _, _, _, _, get0, rfl, rfl, ?_, ?_, ?_, ?_⟩) | (with_reducible refine ⟨1, _, _, _, _, get1, rfl, rfl, ?_, ?_, ?_, ?_⟩) | (with_reducible refine ⟨2, _, _, _, _, get2, rfl, rfl, ?_, ?_, ?_, ?_⟩) | (with_reducible refine ⟨3, _, _, _, _, get3, rfl, rfl, ?_, ?_, ?_, ?_⟩)); (kernel_rfl); (simp [Value.cells]); (rfl); (clear st; intro w st))); (try simp only [nsl, Value.cells, unB] at st); (try clear hc); have hc := st.facts; (try simp only [nfl, nft, Nat.reduceAdd] at hc))
                go_ret
                exact ⟨by rw [H.out] <;> rfl, st.ext0⟩
            · have H : Hid (v = false) := Lib.hid (by rw [HV2.out]; simp [kn])
              (try simp only [nsl, Value.cells, unB] at st)
              (try clear hc); have hc := st.facts; (try simp only [nfl, nft, Nat.reduceAdd] at hc)
              go_enter Try.func114, Try.ntmps114
              go_wp2_with ((first
                    | ((with_reducible refine wl_box ?_ (fun K hK => ?_)); rfl; refine owp_box (o := ⟨some 1, _, _, _, _, _⟩) rfl st ?_; apply Exists.intro; refine ⟨?_, ?_⟩; (focus (go_simp; try rfl)); (clear st; intro b1 w hb st; clear hb))
                    | ((with_reducible refine wl_alloc ?_ (fun K hK => ?_)); rfl; refine owp_alloc (o := ⟨some 3, _, _, _, _, _⟩) rfl st ?_; apply Exists.intro; apply Exists.intro; refine ⟨?_, ?_⟩; (focus (first | (go_simp; done) | (go_simp; rfl))); (clear st; intro b3 w hb st; clear hb))
                    | ((with_reducible refine wl_store ?_ (fun K hK => ?_)); rfl; refine owp_store rfl st ?_; apply Exists.intro; apply Exists.intro; refine ⟨?_, ?_, ?_⟩; (focus (go_simp; try rfl)); (focus (go_simp; try rfl)); (first | (with_reducible refine ⟨0, _, _, _, _, get0, rfl, rfl, ?_, ?_, ?_, ?_⟩) | (with_reducible refine ⟨1, _, _, _, _, get1, rfl, rfl, ?_, ?_, ?_, ?_⟩) | (with_reducible refine ⟨2, _, _, _, _, get2, rfl, rfl, ?_, ?_, ?_, ?_⟩) | (with_reducible refine ⟨3, _, _, _, _, get3, rfl, rfl, ?_, ?_, ?_, ?_⟩)); (kernel_rfl); (simp [Value.cells]); (rfl); (clear st; intro w st))); (try simp only [nsl, Value.cells, unB] at st); (try clear hc); have hc := st.facts; (try simp only [nfl, nft, Nat.reduceAdd] at hc))
              go_ret
              exact ⟨by rw [H.out] <;> rfl, st.ext0⟩
          · have H : Hid (v = false) := Lib.hid (by rw [HV2.out]; simp [k0])
            (try simp only [nsl, Value.cells, unB] at st)
            (try clear hc); have hc := st.facts; (try simp only [nfl, nft, Nat.reduceAdd] at hc)
            go_enter Try.func114, Try.ntmps114
            go_wp2_with ((first
                  | ((with_reducible refine wl_box ?_ (fun K hK => ?_)); rfl; refine owp_box (o := ⟨some 1, _, _, _, _, _⟩) rfl st ?_; apply Exists.intro; refine ⟨?_, ?_⟩; (focus (go_simp; try rfl)); (clear st; intro b1 w hb st; clear hb))
                  | ((with_reducible refine wl_alloc ?_ (fun K hK => ?_)); rfl; refine owp_alloc (o := ⟨some 3, _, _, _, _, _⟩) rfl st ?_; apply Exists.intro; apply Exists.intro; refine ⟨?_, ?_⟩; (focus (first | (go_simp; done) | (go_simp; rfl))); (clear st; intro b3 w hb st; clear hb))
                  | ((with_reducible refine wl_store ?_ (fun K hK => ?_)); rfl; refine owp_store rfl st ?_; apply Exists.intro; apply Exists.intro; refine ⟨?_, ?_, ?_⟩; (focus (go_simp; try rfl)); (focus (go_simp; try rfl)); (first | (with_reducible refine ⟨0, _, _, _, _, get0, rfl, rfl, ?_, ?_, ?_, ?_⟩) | (with_reducible refine ⟨1, _, _, _, _, get1, rfl, rfl, ?_, ?_, ?_, ?_⟩) | (with_reducible refine ⟨2, _, _, _, _, get2, rfl, rfl, ?_, ?_, ?_, ?_⟩) | (with_reducible refine ⟨3, _, _, _, _, get3, rfl, rfl, ?_, ?_, ?_, ?_⟩)); (kernel_rfl); (simp [Value.cells]); (rfl); (clear st; intro w st))); (try simp only [nsl, Value.cells, unB] at st); (try clear hc); have hc := st.facts; (try simp only [nfl, nft, Nat.reduceAdd] at hc))
            go_ret
            exact ⟨by rw [H.out] <;> rfl, st.ext0⟩
      · have H : Hid (v = false) := Lib.hid (by rw [HV2.out]; simp [o4])
        have b4 : (op == 4) = false := by simpa using o4
        clear o1 o2 o4
        (try simp only [nsl, Value.cells, unB] at st)
        (try clear hc); have hc := st.facts; (try simp only [nfl, nft, Nat.reduceAdd] at hc)
        go_enter Try.func114, Try.ntmps114
        go_wp2_with ((first
              | ((with_reducible refine wl_box ?_ (fun K hK => ?_)); rfl; refine owp_box (o := ⟨some 1, _, _, _, _, _⟩) rfl st ?_; apply Exists.intro; refine ⟨?_, ?_⟩; (focus (go_simp; try rfl)); (clear st; intro b1 w hb st; clear hb))
              | ((with_reducible refine wl_alloc ?_ (fun K hK => ?_)); rfl; refine owp_alloc (o := ⟨some 3, _, _, _, _, _⟩) rfl st ?_; apply Exists.intro; apply Exists.intro; refine ⟨?_, ?_⟩; (focus (first | (go_simp; done) | (go_simp; rfl))); (clear st; intro b3 w hb st; clear hb))
              | ((with_reducible refine wl_store ?_ (fun K hK => ?_)); rfl; refine owp_store rfl st ?_; apply Exists.intro; apply Exists.intro; refine ⟨?_, ?_, ?_⟩; (focus (go_simp; try rfl)); (focus (go_simp; try rfl)); (first | (with_reducible refine ⟨0, _, _, _, _, get0, rfl, rfl, ?_, ?_, ?_, ?_⟩) | (with_reducible refine ⟨1, _, _, _, _, get1, rfl, rfl, ?_, ?_, ?_, ?_⟩) | (with_reducible refine ⟨2, _, _, _, _, get2, rfl, rfl, ?_, ?_, ?_, ?_⟩) | (with_reducible refine ⟨3, _, _, _, _, get3, rfl, rfl, ?_, ?_, ?_, ?_⟩)); (kernel_rfl); (simp [Value.cells]); (rfl); (clear st; intro w st))); (try simp only [nsl, Value.cells, unB] at st); (try clear hc); have hc := st.facts; (try simp only [nfl, nft, Nat.reduceAdd] at hc))
        go_ret
        exact ⟨by rw [H.out] <;> rfl, st.ext0⟩
set_option maxRecDepth 100000 in
set_option maxHeartbeats 1000000 in
theorem fmIndexFunc_any (a : Option Addr) (n c : Nat) (xs : List Fm) (W : World) (h : Fl W a n xs) (hn : n ≤ 2000000) (F : FuncId) (cap : Array Value) (p : Fm → Bool)
    (hi : ∀ w x, (callFunc F (#[x] ++ cap)).run Try.prog w = .ok (.enter F (#[x] ++ cap)) w)
    (hp : ∀ x ∈ xs, ∀ w, Ext W w → Calls Try.prog F (#[fmV x] ++ cap) w fun e w' => e = .returned (.bool (p x)) ∧ Ext w w') :
    Calls Try.prog 144 #[.slice a n c, .func (.func F) #[] cap] W fun e w' => ∃ v : Int, e = .returned (.int .i64 v) ∧ (0 ≤ v ↔ xs.any p = true) ∧ Ext W w' := by
  have HP := Lib.hid hp
  have H := Lib.hid h
  have HN := Lib.hid h.1
  have st := Own.startOld W
  clear hp h
  (try simp only [nsl, Value.cells, unB] at st)
  (try clear hc); have hc := st.facts; (try simp only [nfl, nft, Nat.reduceAdd] at hc)
  go_enter Try.func144, Try.ntmps144
  go_wp2_with fail
  go_loopg [8] n (fun k i wr => ∃ (j : Nat), j ≤ n ∧ k = n - j ∧ i = .int .i64 (j : Int) ∧ Hid (∀ x ∈ xs.take j, p x = false) ∧ Own (fun _ => False) (fun _ => True) W [oldI W] wr)
  case atStart => exact ⟨0, by omega, by omega, rfl, Lib.hid (by simp), st⟩
  case round =>
    obtain ⟨j, hj, rfl, rfl, HT, st'⟩ := hrel
    clear st hc
    have st := st'
    clear st'
    (try simp only [nsl, Value.cells, unB] at st)
    (try clear hc); have hc := st.facts; (try simp only [nfl, nft, Nat.reduceAdd] at hc)
    by_cases hjn : j < n
    · obtain ⟨b, off, ha, hcell⟩ := (st.oldFl (i := 0) get0 H.out).fm (by omega)
      have hjl : j < xs.length := by have := HN.out; omega
      have hgt := List.getElem?_eq_getElem hjl
      have hts : xs.take (j + 1) = xs.take j ++ [xs[j]] := (List.take_append_getElem hjl).symm
      have hx := HP.out xs[j] (List.getElem_mem hjl)
      have hmem := List.getElem_mem hjl
      generalize xs[j] = x at *
      have HX := Lib.hid (And.intro hts hmem)
      clear hts hmem hjl
      obtain ⟨pv, hpv⟩ : ∃ v, p x = v := ⟨_, rfl⟩
      rw [hpv] at hx
      have HPV := Lib.hid hpv
      clear hpv
      obtain ⟨op, k, ⟨o, d⟩, a', n', c', kids⟩ := x
      obtain ⟨r0, r1, r2, r3, r4⟩ := hcell j op k (o, d) a' n' c' kids hgt
      clear hcell hgt
      subst ha
      unfold fmV S at hx
      unfold S at r2 r3
      simp only at hx r2 r3
      have HQ := Lib.hid hx
      clear hx
      go_wp2_with fail
      refine (HQ.out _ st.ext0).mono ?_
      rintro en w ⟨rfl, hx⟩
      replace st := st.ext hx
      clear hx r0 r1 r2 r3 r4
      cases pv with
      | true =>
        have HF : Hid (xs.any p = true) := Lib.hid (List.any_eq_true.2 ⟨_, HX.out.2, HPV.out⟩)
        go_wp2_with fail
        go_ret
        exact ⟨_, rfl, ⟨fun _ => HF.out, fun _ => by omega⟩, st.ext0⟩
      | false =>
        have HF : Hid (∀ x ∈ xs.take (j + 1), p x = false) := Lib.hid (fun x hx => by
          rw [HX.out.1] at hx
          rcases List.mem_append.1 hx with q | q
          · exact HT.out x q
          · rw [List.mem_singleton.1 q]; exact HPV.out)
        go_wp2_with fail
        go_roundg (n - (j + 1))
        case measure => omega
        case rel => exact ⟨j + 1, by omega, by omega, by go_num, HF, st⟩
    · obtain rfl : j = n := by omega
      have HF : Hid (xs.any p = false) := Lib.hid (by
        rw [List.any_eq_false]
        intro x hx
        have := HT.out x (by rw [List.take_of_length_le (by have := HN.out; omega)]; exact hx)
        simp [this])
      go_wp2_with fail
      go_ret
      exact ⟨_, rfl, ⟨fun q => by omega, fun q => by rw [HF.out] at q; cases q⟩, st.ext0⟩
set_option maxRecDepth 100000 in
set_option maxHeartbeats 1000000 in
theorem fmContainsFunc_any (a : Option Addr) (n c : Nat) (xs : List Fm) (W : World) (h : Fl W a n xs) (hn : n ≤ 2000000) (F : FuncId) (cap : Array Value) (p : Fm → Bool)
    (hi : ∀ w x, (callFunc F (#[x] ++ cap)).run Try.prog w = .ok (.enter F (#[x] ++ cap)) w)
    (hp : ∀ x ∈ xs, ∀ w, Ext W w → Calls Try.prog F (#[fmV x] ++ cap) w fun e w' => e = .returned (.bool (p x)) ∧ Ext w w') :
    Calls Try.prog 115 #[.slice a n c, .func (.func F) #[] cap] W fun e w' => e = .returned (.bool (xs.any p)) ∧ Ext W w' := by
  have HI := Lib.hid (fmIndexFunc_any a n c xs W h hn F cap p hi hp)
  obtain ⟨r, hr⟩ : ∃ r, xs.any p = r := ⟨_, rfl⟩
  rw [hr] at HI ⊢
  clear hp h hi hr
  go_enter Try.func115, Try.ntmps115
  go_wp2_with fail
  refine HI.out.mono ?_
  rintro en w' ⟨v, rfl, hv, hx⟩
  by_cases h0 : 0 ≤ v
  · have hr : r = true := hv.1 h0
    subst hr
    clear hv
    go_wp2_with fail
    go_ret
    exact ⟨by simp [h0], hx⟩
  · have hr : r = false := by cases r with | false => rfl | true => exact absurd (hv.2 rfl) h0
    subst hr
    clear hv
    go_wp2_with fail
    go_ret
    exact ⟨by simp; omega, hx⟩
set_option maxRecDepth 100000 in
set_option maxHeartbeats 1000000 in
theorem fmNodes1_any (f : Fm) (W : World) (v : Bool) (hf : ∀ W', Ext W W' → Calls Try.prog 77 #[fmV f] W' fun e w' => e = .returned (.bool v) ∧ Ext W' w') :
    Calls Try.prog 116 #[fmV f] W fun e w' => e = .returned (.bool (!v)) ∧ Ext W w' := by
  have HF := Lib.hid hf
  obtain ⟨op, k, ⟨o, d⟩, a, n, c, kids⟩ := f
  clear hf
  have st := Own.startOld W
  unfold fmV S at HF ⊢
  simp only at HF ⊢
  (try simp only [nsl, Value.cells, unB] at st)
  (try clear hc); have hc := st.facts; (try simp only [nfl, nft, Nat.reduceAdd] at hc)
  go_enter Try.func116, Try.ntmps116
  go_wp2_with ((((with_reducible refine wl_box ?_ (fun K hK => ?_)); rfl; refine owp_box (o := ⟨some 1, _, _, _, _, _⟩) rfl st ?_; apply Exists.intro; refine ⟨?_, ?_⟩; (focus (go_simp; try rfl)); (clear st; intro b1 w hb st; clear hb))); (try simp only [nsl, Value.cells, unB] at st); (try clear hc); have hc := st.facts; (try simp only [nfl, nft, Nat.reduceAdd] at hc))
  refine (HF.out _ st.ext0).mono ?_
  rintro en w ⟨rfl, hx⟩
  replace st := st.ext hx
  clear hx
  (try clear hc); have hc := st.facts; (try simp only [nfl, nft, Nat.reduceAdd] at hc)
  go_wp2_with fail
  go_ret
  exact ⟨by simp, st.ext0⟩
set_option maxRecDepth 100000 in
set_option maxHeartbeats 1000000 in
theorem fmNodes_any (f : Fm) : ∀ (W : World), FmOk W f → FoL 100000 f.strip →
    Calls Try.prog 77 #[fmV f] W fun e w' => e = .returned (.bool f.strip.well) ∧ Ext W w' := by
  induction f using Fm.ind
  rename_i op k r a n c kids ih
  intro W hok hl
  obtain ⟨o, d⟩ := r
  rw [strip_mk] at *
  have HNO := Lib.hid (fun W => fmNode_any op k o d a n c W hl.role.1 hl.role.2)
  have hnl : n = kids.length := hok.fl.1
  have HV : Hid ((Fo.mk op k (o, d) (kids.map Fm.strip)).well = (nodeR op k (o, d) n && decide (n ≤ 8) && !(kids.any fun x => !x.strip.well))) := Lib.hid (by
    rw [Fo.well, wellL_all, List.length_map, ← hnl, ← List.not_all_eq_any_not, Bool.not_not, List.all_map]; rfl)
  obtain ⟨v, hv⟩ : ∃ v, (Fo.mk op k (o, d) (kids.map Fm.strip)).well = v := ⟨_, rfl⟩
  rw [hv] at HV ⊢
  clear hv
  obtain ⟨nr, hnr⟩ : ∃ v, nodeR op k (o, d) n = v := ⟨_, rfl⟩
  rw [hnr] at HV HNO
  clear hnr
  obtain ⟨an, han⟩ : ∃ v, (kids.any fun x => !x.strip.well) = v := ⟨_, rfl⟩
  have HCF := Lib.hid (fun W' (hx : Ext W W') (h8 : n ≤ 8) => han ▸ fmContainsFunc_any a n c kids W' (Arr.ext hok.fl hx) (by omega) 116 #[] (fun x => !x.strip.well) (fun _ _ => by kernel_rfl) (fun x hxm w hw => fmNodes1_any x w x.strip.well (fun W2 hx2 => ih x hxm W2 (((hok.kids x hxm).ext hx).ext (hw.trans hx2)) (hl.kids _ (List.mem_map.2 ⟨x, hxm, rfl⟩)))))
  rw [han] at HV
  clear han hok ih hl hnl
  have st := Own.startOld W
  unfold fmV S
  simp only
  (try simp only [nsl, Value.cells, unB] at st)
  (try clear hc); have hc := st.facts; (try simp only [nfl, nft, Nat.reduceAdd] at hc)
  go_enter Try.func77, Try.ntmps77
  go_wp2_with ((((with_reducible refine wl_box ?_ (fun K hK => ?_)); rfl; refine owp_box (o := ⟨some 1, _, _, _, _, _⟩) rfl st ?_; apply Exists.intro; refine ⟨?_, ?_⟩; (focus (go_simp; try rfl)); (clear st; intro b1 w hb st; clear hb))); (try simp only [nsl, Value.cells, unB] at st); (try clear hc); have hc := st.facts; (try simp only [nfl, nft, Nat.reduceAdd] at hc))
  refine (HNO.out _).mono ?_
  rintro en w ⟨rfl, hx⟩
  replace st := st.ext hx
  clear hx
  (try clear hc); have hc := st.facts; (try simp only [nfl, nft, Nat.reduceAdd] at hc)
  cases nr with
  | false =>
    have H : Hid (v = false) := Lib.hid (by rw [HV.out]; rfl)
    go_wp2_with ((((with_reducible refine wl_box ?_ (fun K hK => ?_)); rfl; refine owp_box (o := ⟨some 1, _, _, _, _, _⟩) rfl st ?_; apply Exists.intro; refine ⟨?_, ?_⟩; (focus (go_simp; try rfl)); (clear st; intro b1 w hb st; clear hb))); (try simp only [nsl, Value.cells, unB] at st); (try clear hc); have hc := st.facts; (try simp only [nfl, nft, Nat.reduceAdd] at hc))
    go_ret
    exact ⟨by rw [H.out] <;> rfl, st.ext0⟩
  | true =>
    by_cases h8 : n ≤ 8
    · have H : Hid (v = !an) := Lib.hid (by rw [HV.out]; simp [h8])
      have h8i : (n : Int) ≤ 8 := by omega
      go_wp2_with ((((with_reducible refine wl_box ?_ (fun K hK => ?_)); rfl; refine owp_box (o := ⟨some 1, _, _, _, _, _⟩) rfl st ?_; apply Exists.intro; refine ⟨?_, ?_⟩; (focus (go_simp; try rfl)); (clear st; intro b1 w hb st; clear hb))); (try simp only [nsl, Value.cells, unB] at st); (try clear hc); have hc := st.facts; (try simp only [nfl, nft, Nat.reduceAdd] at hc))
      refine (HCF.out _ st.ext0 h8).mono ?_
      rintro en w ⟨rfl, hx⟩
      replace st := st.ext hx
      clear hx
      (try clear hc); have hc := st.facts; (try simp only [nfl, nft, Nat.reduceAdd] at hc)
      go_wp2_with fail
      go_ret
      exact ⟨by rw [H.out] <;> rfl, st.ext0⟩
    · have H : Hid (v = false) := Lib.hid (by rw [HV.out]; simp [h8])
      have h8i : ¬ (n : Int) ≤ 8 := by omega
      clear h8
      go_wp2_with ((((with_reducible refine wl_box ?_ (fun K hK => ?_)); rfl; refine owp_box (o := ⟨some 1, _, _, _, _, _⟩) rfl st ?_; apply Exists.intro; refine ⟨?_, ?_⟩; (focus (go_simp; try rfl)); (clear st; intro b1 w hb st; clear hb))); (try simp only [nsl, Value.cells, unB] at st); (try clear hc); have hc := st.facts; (try simp only [nfl, nft, Nat.reduceAdd] at hc))
      go_ret
      exact ⟨by rw [H.out] <;> rfl, st.ext0⟩
set_option maxRecDepth 100000 in
set_option maxHeartbeats 1000000 in
theorem fmRight_any (f : Fm) (W : World) (h : FmOk W f) (hs : f.strip.nodes ≤ 1000000000) (hl : FoL 100000 f.strip) :
    Calls Try.prog 41 #[fmV f] W fun e w' => e = .returned (.bool (foR f.strip)) ∧ Ext W w' := by
  have HS := Lib.hid (fun W' (hx : Ext W W') => fmSize_any f W' (h.ext hx) hs)
  have HW := Lib.hid (fun W' (hx : Ext W W') => fmNodes_any f W' (h.ext hx) hl)
  have hnp := nodes_pos f.strip
  have HV : Hid (foR f.strip = (decide (f.strip.nodes ≤ 64) && decide (f.strip.deep ≤ 6) && f.strip.well)) := Lib.hid rfl
  obtain ⟨op, k, ⟨o, d⟩, a, n, c, kids⟩ := f
  generalize foR (Fm.mk op k (o, d) a n c kids).strip = v at *
  generalize (Fm.mk op k (o, d) a n c kids).strip.nodes = N1 at *
  generalize (Fm.mk op k (o, d) a n c kids).strip.deep = D1 at *
  generalize (Fm.mk op k (o, d) a n c kids).strip.well = wv at *
  clear h hs hl
  have st := Own.startOld W
  unfold fmV S at HS HW ⊢
  simp only at HS HW ⊢
  (try simp only [nsl, Value.cells, unB] at st)
  (try clear hc); have hc := st.facts; (try simp only [nfl, nft, Nat.reduceAdd] at hc)
  go_enter Try.func41, Try.ntmps41
  go_wp2_with ((((with_reducible refine wl_box ?_ (fun K hK => ?_)); rfl; refine owp_box (o := ⟨some 1, _, _, _, _, _⟩) rfl st ?_; apply Exists.intro; refine ⟨?_, ?_⟩; (focus (go_simp; try rfl)); (clear st; intro b1 w hb st; clear hb))); (try simp only [nsl, Value.cells, unB] at st); (try clear hc); have hc := st.facts; (try simp only [nfl, nft, Nat.reduceAdd] at hc))
  refine (HS.out _ st.ext0).mono ?_
  rintro en w ⟨n1, d1, rfl, hcn, hx⟩
  replace st := st.ext hx
  clear hx
  by_cases h4 : N1 ≤ 4096
  · obtain ⟨rfl, rfl⟩ := hcn.1 h4
    clear hcn
    have np : (1 : Int) ≤ (n1 : Int) := by omega
    by_cases h64 : n1 ≤ 64
    · have h64i : (n1 : Int) ≤ 64 := by omega
      by_cases h6 : d1 ≤ 6
      · have h6i : (d1 : Int) ≤ 6 := by omega
        have H : Hid (v = wv) := Lib.hid (by rw [HV.out]; simp [h64, h6])
        clear h64 h6 h4 hnp
        (try simp only [nsl, Value.cells, unB] at st)
        (try clear hc); have hc := st.facts; (try simp only [nfl, nft, Nat.reduceAdd] at hc)
        go_wp2_with ((((with_reducible refine wl_box ?_ (fun K hK => ?_)); rfl; refine owp_box (o := ⟨some 1, _, _, _, _, _⟩) rfl st ?_; apply Exists.intro; refine ⟨?_, ?_⟩; (focus (go_simp; try rfl)); (clear st; intro b1 w hb st; clear hb))); (try simp only [nsl, Value.cells, unB] at st); (try clear hc); have hc := st.facts; (try simp only [nfl, nft, Nat.reduceAdd] at hc))
        refine (HW.out _ st.ext0).mono ?_
        rintro en w ⟨rfl, hx⟩
        replace st := st.ext hx
        clear hx
        (try clear hc); have hc := st.facts; (try simp only [nfl, nft, Nat.reduceAdd] at hc)
        go_wp2_with fail
        go_ret
        exact ⟨by rw [H.out] <;> rfl, st.ext0⟩
      · have h6i : ¬ (d1 : Int) ≤ 6 := by omega
        have H : Hid (v = false) := Lib.hid (by rw [HV.out]; simp [h6])
        clear h64 h6 h4 hnp
        (try simp only [nsl, Value.cells, unB] at st)
        (try clear hc); have hc := st.facts; (try simp only [nfl, nft, Nat.reduceAdd] at hc)
        go_wp2_with ((((with_reducible refine wl_box ?_ (fun K hK => ?_)); rfl; refine owp_box (o := ⟨some 1, _, _, _, _, _⟩) rfl st ?_; apply Exists.intro; refine ⟨?_, ?_⟩; (focus (go_simp; try rfl)); (clear st; intro b1 w hb st; clear hb))); (try simp only [nsl, Value.cells, unB] at st); (try clear hc); have hc := st.facts; (try simp only [nfl, nft, Nat.reduceAdd] at hc))
        go_ret
        exact ⟨by rw [H.out] <;> rfl, st.ext0⟩
    · have h64i : ¬ (n1 : Int) ≤ 64 := by omega
      have H : Hid (v = false) := Lib.hid (by rw [HV.out]; simp [h64])
      clear h64 h4 hnp
      (try simp only [nsl, Value.cells, unB] at st)
      (try clear hc); have hc := st.facts; (try simp only [nfl, nft, Nat.reduceAdd] at hc)
      go_wp2_with ((((with_reducible refine wl_box ?_ (fun K hK => ?_)); rfl; refine owp_box (o := ⟨some 1, _, _, _, _, _⟩) rfl st ?_; apply Exists.intro; refine ⟨?_, ?_⟩; (focus (go_simp; try rfl)); (clear st; intro b1 w hb st; clear hb))); (try simp only [nsl, Value.cells, unB] at st); (try clear hc); have hc := st.facts; (try simp only [nfl, nft, Nat.reduceAdd] at hc))
      go_ret
      exact ⟨by rw [H.out] <;> rfl, st.ext0⟩
  · obtain ⟨rfl, rfl⟩ := hcn.2 (by omega)
    have H : Hid (v = false) := Lib.hid (by rw [HV.out, decide_eq_false (by omega)]; rfl)
    clear hcn h4 hnp
    (try simp only [nsl, Value.cells, unB] at st)
    (try clear hc); have hc := st.facts; (try simp only [nfl, nft, Nat.reduceAdd] at hc)
    go_wp2_with ((((with_reducible refine wl_box ?_ (fun K hK => ?_)); rfl; refine owp_box (o := ⟨some 1, _, _, _, _, _⟩) rfl st ?_; apply Exists.intro; refine ⟨?_, ?_⟩; (focus (go_simp; try rfl)); (clear st; intro b1 w hb st; clear hb))); (try simp only [nsl, Value.cells, unB] at st); (try clear hc); have hc := st.facts; (try simp only [nfl, nft, Nat.reduceAdd] at hc))
    go_ret
    exact ⟨by rw [H.out] <;> rfl, st.ext0⟩
end Go.Proofs.Ythjaopojlhdjpaa

namespace Go.Proofs.Ythjaopojlhdjpaa
set_option linter.unusedSimpArgs false
set_option linter.unusedVariables false
open Go Go.RowKit
theorem Own.weak {fr fr' al al' : Nat → Prop} {w0 w : World} {L : List It} (h : Own fr al w0 L w) (hf : ∀ b, fr b → fr' b) (ha : ∀ b, al b → al' b) : Own fr' al' w0 L w :=
  let ⟨hm, e, s, F⟩ := h
  ⟨hm.mono hf, e, s, F.holds, F.lo, fun i b hi he hb => hf _ (F.fr i b hi he hb), fun i b hi hb hl => ha _ (F.al i b hi hb hl), F.ee, F.es⟩
/-- What a call has laid anew comes beside what there was. -/
theorem Own.join {fr al : Nat → Prop} {w0 w w' : World} {L M : List It} (st : Own fr al w0 L w) (h : Own (fun _ => False) (fun _ => False) w M w') : Own fr al w0 (L ++ M) w' := by
  obtain ⟨fr', al', st', back⟩ := st.sub [] (by simp) (by simp)
  have := back M w' (by simp) (h.weak (fun _ q => q.elim) (fun _ q => q.elim))
  simpa [putIt] using this
section
variable {fr al : Nat → Prop} {w0 w : World} {L : List It}
/-- A new item of what two others share. -/
theorem Own.share2 (st : Own fr al w0 L w) {i i2 : Nat} {I I2 I' : It} (hi : L[i]? = some I) (hi2 : L[i2]? = some I2) (h : ∀ e s e2 s2, I.P e s w → I2.P e2 s2 w → I'.P (fun _ => False) (fun b => s b ∨ s2 b) w) : Own fr al w0 (L ++ [I']) w := by
  obtain ⟨hm, e, s, F⟩ := st
  have hil := get_lt hi
  have hil2 := get_lt hi2
  have h1 := h _ _ _ _ (F.holds i I hi) (F.holds i2 I2 hi2)
  have hlen : ∀ {j}, j < (L ++ [I']).length → j < L.length ∨ j = L.length := fun {j} h => by simp at h; omega
  refine ⟨hm, fun j => if j < L.length then e j else fun _ => False, fun j => if j < L.length then s j else fun b => s i b ∨ s i2 b, ?_, ?_, ?_, ?_, ?_, ?_⟩
  · intro j J hj
    have hjl := get_lt hj
    rcases hlen hjl with h | h
    · rw [List.getElem?_append_left h] at hj
      simp only [h, if_true]
      exact F.holds j J hj
    · subst h
      simp at hj
      subst hj
      simp only [Nat.lt_irrefl, if_false]
      exact h1
  · intro j b hj hb
    rcases hlen hj with h | h
    · simp only [h, if_true] at hb
      exact F.lo j b h hb
    · subst h
      simp only [Nat.lt_irrefl, if_false, false_or] at hb
      rcases hb with hb | hb
      · exact F.lo i b hil (.inr hb)
      · exact F.lo i2 b hil2 (.inr hb)
  · intro j b hj hb hb0
    rcases hlen hj with h | h
    · simp only [h, if_true] at hb
      exact F.fr j b h hb hb0
    · subst h
      simp only [Nat.lt_irrefl, if_false] at hb
  · intro j b hj hb hb0
    rcases hlen hj with h | h
    · simp only [h, if_true] at hb
      exact F.al j b h hb hb0
    · subst h
      simp only [Nat.lt_irrefl, if_false, false_or] at hb
      rcases hb with hb | hb
      · exact F.al i b hil (.inr hb) hb0
      · exact F.al i2 b hil2 (.inr hb) hb0
  · intro j k b hj hk hjk hb hb'
    rcases hlen hj with h | h
    · rcases hlen hk with h' | h'
      · simp only [h, h', if_true] at hb hb'
        exact F.ee j k b h h' hjk hb hb'
      · subst h'
        simp only [Nat.lt_irrefl, if_false] at hb'
    · subst h
      simp only [Nat.lt_irrefl, if_false] at hb
  · intro j k b hj hk hb hb'
    rcases hlen hj with h | h
    · rcases hlen hk with h' | h'
      · simp only [h, h', if_true] at hb hb'
        exact F.es j k b h h' hb hb'
      · subst h'
        simp only [h, if_true, Nat.lt_irrefl, if_false] at hb hb'
        rcases hb' with hb' | hb'
        · exact F.es j i b h hil hb hb'
        · exact F.es j i2 b h hil2 hb hb'
    · subst h
      simp only [Nat.lt_irrefl, if_false] at hb
end
end Go.Proofs.Ythjaopojlhdjpaa

namespace Go.Proofs.Ythjaopojlhdjpaa
set_option linter.unusedSimpArgs false
set_option linter.unusedVariables false
open Go Go.RowKit
end Go.Proofs.Ythjaopojlhdjpaa

namespace Go.Proofs.Ythjaopojlhdjpaa
set_option linter.unusedSimpArgs false
set_option linter.unusedVariables false
open Go Go.RowKit
section
variable {α : Type} [Inhabited α] [DecidableEq α]
end
theorem Own.rowC {fr al : Nat → Prop} {w0 w : World} {L : List It} (st : Own fr al w0 L w) {i n size g c : Nat} {E : TypeId} {xs : List Value} (hi : L[i]? = some (rowI E size (.slice (some ⟨g, 0, none⟩) n c) n xs)) (j : Nat) (u : Value) (hj : xs[j]? = some u) : w.cell? ⟨g, j, none⟩ = some u := by
  have := (st.row hi).cells (g := g) rfl j u hj
  rwa [addr_add, Nat.zero_add] at this
end Go.Proofs.Ythjaopojlhdjpaa

namespace Go.Proofs.Ythjaopojlhdjpaa
set_option linter.unusedSimpArgs false
set_option linter.unusedVariables false
open Go Go.RowKit
@[go_sem] theorem eqNilRole (a : Option Addr) (n c : Nat) (w : World) : (binOp .eql 37 (.slice a n c) (.slice none 0 0)).run Try.prog w = .ok (.bool a.isNone) w := by
  have h := run_equal_slice_nil w _ _ a n c Try.underlying37
  simp only [binOp]
  simp [h]
end Go.Proofs.Ythjaopojlhdjpaa

namespace Go.Proofs.Ythjaopojlhdjpaa
set_option linter.unusedSimpArgs false
set_option linter.unusedVariables false
open Go Go.RowKit Go.Sort Go.Lib Go.Shelf
section
variable {α : Type} [Flt α] [Inhabited α]
variable {fr al : Nat → Prop} {w0 w : World} {L : List It}
end
end Go.Proofs.Ythjaopojlhdjpaa

namespace Go.Proofs.Ythjaopojlhdjpaa
set_option linter.unusedSimpArgs false
set_option linter.unusedVariables false
open Go Go.RowKit Go.Sort Go.Lib
def roleSort (xs : List Role) : List Role := xs.mergeSort fun x y => !(ltOf roleCmp) y x
/-- The set of the right roles of a list. -/
@[irreducible] def roleSet (l : List Role) : List Role := Lib.compact (roleSort (l.filter roleR))
section
variable {fr al : Nat → Prop} {w0 w : World} {L : List It}
end
end Go.Proofs.Ythjaopojlhdjpaa

namespace Go.Proofs.Ythjaopojlhdjpaa
set_option linter.unusedSimpArgs false
set_option linter.unusedVariables false
open Go Go.RowKit
end Go.Proofs.Ythjaopojlhdjpaa

namespace Go.Proofs.Ythjaopojlhdjpaa
set_option linter.unusedSimpArgs false
set_option linter.unusedVariables false
open Go Go.RowKit
@[go_sem high] theorem neqNilFunc (F : FuncId) (cs : Array Value) (w : World) : (binOp .neq 39 (.func (.func F) #[] cs) .nilFunc).run Try.prog w = .ok (.bool true) w := by
  have h : ∀ d : Nat, (Op.equalIn (d + 1) 39 (.func (.func F) #[] cs) .nilFunc).run Try.prog w = .ok false w := fun d => by
    simp [Op.equalIn, run_underlying Try.underlying39]
  simp only [binOp]
  simp [Op.equal, Op.maxDepth, h 9999]
end Go.Proofs.Ythjaopojlhdjpaa

namespace Go.Proofs.Ythjaopojlhdjpaa
set_option linter.unusedSimpArgs false
set_option linter.unusedVariables false
open Go Go.RowKit
def elF (w : World) (b : Nat) : List (Nat × Value) → Prop
  | [] => True
  | p :: l => w.cell? ⟨b, p.1, none⟩ = some p.2 ∧ elF w b l
theorem elF_of {w : World} {b : Nat} : ∀ {l : List (Nat × Value)}, (∀ p ∈ l, w.cell? ⟨b, p.1, none⟩ = some p.2) → elF w b l
  | [], _ => trivial
  | p :: l, h => ⟨h p (by simp), elF_of fun q hq => h q (by simp [hq])⟩
theorem elF_to {w : World} {b : Nat} : ∀ {l : List (Nat × Value)}, elF w b l → ∀ p ∈ l, w.cell? ⟨b, p.1, none⟩ = some p.2
  | [], _, p, hp => by simp at hp
  | q :: l, h, p, hp => by
    rcases List.mem_cons.1 hp with e | e
    · subst e; exact h.1
    · exact elF_to h.2 p e
def elI (b : Nat) (l : List (Nat × Value)) : It where
  P _ s w := s b ∧ ∀ p ∈ l, w.cell? ⟨b, p.1, none⟩ = some p.2
  st := fun {e s w w'} ⟨h1, h2⟩ hag => ⟨h1, fun p hp => by rw [World.cell?_of_block (w := w) (hag b (.inr h1))]; exact h2 p hp⟩
  facts w := elF w b l
  ok := fun h => elF_of h.2
theorem Own.addEl {fr al : Nat → Prop} {w0 w W : World} {L : List It} (st : Own fr al w0 L w) {i : Nat} (hi : L[i]? = some (oldI W)) (b o : Nat) (v : Value) (l : List (Nat × Value)) (h : elF W b ((o, v) :: l)) : Own fr al w0 (L ++ [elI b ((o, v) :: l)]) w :=
  st.share hi fun e s h1 => ⟨h1.1 _ (show b < _ from World.block_lt_of_cell? W ⟨b, o, none⟩ h.1), fun p hp => by
    have hb : b < W.heap.size := World.block_lt_of_cell? W ⟨b, o, none⟩ h.1
    rw [World.cell?_of_block (w := W) (h1.2.2 b hb)]
    exact elF_to h p hp⟩
end Go.Proofs.Ythjaopojlhdjpaa

namespace Go.Proofs.Ythjaopojlhdjpaa
set_option linter.unusedSimpArgs false
set_option linter.unusedVariables false
open Go Go.RowKit
end Go.Proofs.Ythjaopojlhdjpaa

namespace Go.Proofs.Ythjaopojlhdjpaa
set_option linter.unusedSimpArgs false
set_option linter.unusedVariables false
open Go Go.RowKit
end Go.Proofs.Ythjaopojlhdjpaa

namespace Go.Proofs.Ythjaopojlhdjpaa
set_option linter.unusedSimpArgs false
set_option linter.unusedVariables false
open Go Go.RowKit
section
variable {fr al : Nat → Prop} {w0 w : World} {L : List It} {P : Program} {a : Act} {K : Act → World → Prop} {Q : Exit → Act → World → Prop}
end
/-- A mask among the cells. -/
structure MkT where
  v : Nat
deriving Inhabited
instance fltMk : Flt MkT := ⟨1, fun x => [.int .i64 (x.v : Int)], fun _ => rfl, by decide, fun x u hu => by simp at hu; subst hu; rfl⟩
end Go.Proofs.Ythjaopojlhdjpaa

namespace Go.Proofs.Ythjaopojlhdjpaa
set_option linter.unusedSimpArgs false
set_option linter.unusedVariables false
open Go Go.RowKit
section
variable {f : Fo} {A : List Role} (hA : ∀ r ∈ f.atoms, r ∈ A)
include hA
end
end Go.Proofs.Ythjaopojlhdjpaa

namespace Go.Proofs.Ythjaopojlhdjpaa
set_option linter.unusedSimpArgs false
set_option linter.unusedVariables false
open Go Go.RowKit
/-- Is it so? -/
noncomputable def pB (P : Prop) : Bool := @decide P (Classical.propDecidable P)
theorem pB_t {P : Prop} (h : P) : pB P = true := @decide_eq_true P (Classical.propDecidable P) h
theorem pB_f {P : Prop} (h : ¬ P) : pB P = false := @decide_eq_false P (Classical.propDecidable P) h
theorem pB_iff {P : Prop} : pB P = true ↔ P := @decide_eq_true_iff P (Classical.propDecidable P)
theorem pB_of {P : Prop} {v : Bool} (h : v = true ↔ P) : pB P = v := by
  cases v with
  | true => exact pB_t (h.1 rfl)
  | false => exact pB_f fun q => by have := h.2 q; cases this
theorem map_strip_snoc2 {xs ys : List Fm} {j : Nat} (hx : j < xs.length) (hy : j < ys.length) (h : (xs.take j).map Fm.strip = (ys.take j).map Fm.strip) (hs : xs[j].strip = ys[j].strip) : (xs.take (j + 1)).map Fm.strip = (ys.take (j + 1)).map Fm.strip := by
  rw [map_snoc_strip xs j hx, map_snoc_strip ys j hy, h, hs]
theorem map_strip_at {xs ys : List Fm} {j : Nat} (hx : j < xs.length) (hy : j < ys.length) (h : xs.map Fm.strip = ys.map Fm.strip) : xs[j].strip = ys[j].strip := by
  have h1 : (xs.map Fm.strip)[j]? = (ys.map Fm.strip)[j]? := by rw [h]
  rw [List.getElem?_map, List.getElem?_map, List.getElem?_eq_getElem hx, List.getElem?_eq_getElem hy] at h1
  simpa using h1
set_option maxRecDepth 100000 in
set_option maxHeartbeats 2000000 in
theorem fmEqualFunc_any (a : Option Addr) (n c : Nat) (xs : List Fm) (a2 : Option Addr) (n2 c2 : Nat) (ys : List Fm) (W : World) (h : Fl W a n xs) (h2 : Fl W a2 n2 ys) (hn : n ≤ 9223372036854775807) (hn2 : n2 ≤ 9223372036854775807) (F : FuncId) (cap : Array Value)
    (hi : ∀ w x y, (callFunc F (#[x, y] ++ cap)).run Try.prog w = .ok (.enter F (#[x, y] ++ cap)) w)
    (hp : ∀ x ∈ xs, ∀ y ∈ ys, ∀ w, Ext W w → Calls Try.prog F (#[fmV x, fmV y] ++ cap) w fun e w' => e = .returned (.bool (pB (x.strip = y.strip))) ∧ Ext w w') :
    Calls Try.prog 81 #[.slice a n c, .slice a2 n2 c2, .func (.func F) #[] cap] W fun e w' => e = .returned (.bool (pB (xs.map Fm.strip = ys.map Fm.strip))) ∧ Ext W w' := by
  have HP := Lib.hid hp
  have H := Lib.hid h
  have H2 := Lib.hid h2
  have HN := Lib.hid h.1
  have HN2 := Lib.hid h2.1
  have st := Own.startOld W
  clear hp h h2
  obtain ⟨P, hP⟩ : ∃ P, (xs.map Fm.strip = ys.map Fm.strip) = P := ⟨_, rfl⟩
  have HPP := Lib.hid hP
  obtain ⟨rv, hrv⟩ : ∃ v, pB P = v := ⟨_, rfl⟩
  have HV := Lib.hid hrv
  rw [hP, hrv]
  clear hP hrv
  by_cases hnn : n = n2
  case neg =>
    have hb : ((n : Int) != (n2 : Int)) = true := by simp; omega
    have hb2 : ((n : Int) == (n2 : Int)) = false := by simp; omega
    have HF : Hid (rv = false) := Lib.hid (by rw [← HV.out, ← HPP.out]; exact pB_f fun q => hnn (by
      have := congrArg List.length q
      rw [List.length_map, List.length_map, ← HN.out, ← HN2.out] at this
      exact this))
    clear hnn
    (try simp only [nsl, Value.cells, unB] at st)
    (try clear hc); have hc := st.facts; (try simp only [nfl, nft, elI, elF, Nat.reduceAdd] at hc)
    go_enter Try.func81, Try.ntmps81
    go_wp2_with fail
    go_ret
    exact ⟨by rw [HF.out] <;> rfl, st.ext0⟩
  subst hnn
  (try simp only [nsl, Value.cells, unB] at st)
  (try clear hc); have hc := st.facts; (try simp only [nfl, nft, elI, elF, Nat.reduceAdd] at hc)
  go_enter Try.func81, Try.ntmps81
  go_wp2_with fail
  go_loopg [7, 17] n (fun k z i wr => ∃ (j : Nat), j ≤ n ∧ k = n - j ∧ i = .int .i64 (j : Int) ∧ Hid ((xs.take j).map Fm.strip = (ys.take j).map Fm.strip) ∧ Own (fun _ => False) (fun _ => True) W [oldI W] wr)
  case atStart => exact ⟨0, by omega, by omega, rfl, Lib.hid (by simp), st⟩
  case round =>
    obtain ⟨j, hj, rfl, rfl, HT, st'⟩ := hrel
    clear st hc
    have st := st'
    clear st'
    (try simp only [nsl, Value.cells, unB] at st)
    (try clear hc); have hc := st.facts; (try simp only [nfl, nft, elI, elF, Nat.reduceAdd] at hc)
    by_cases hjn : j < n
    · obtain ⟨b, off, ha, hcell⟩ := (st.oldFl (i := 0) get0 H.out).fm (by omega)
      obtain ⟨b2, off2, ha2, hcell2⟩ := H2.out.fm (by omega)
      have hjl : j < xs.length := by have := HN.out; omega
      have hjl2 : j < ys.length := by have := HN2.out; omega
      have hgt := List.getElem?_eq_getElem hjl
      have hgt2 := List.getElem?_eq_getElem hjl2
      have hx := HP.out xs[j] (List.getElem_mem hjl) ys[j] (List.getElem_mem hjl2)
      have hst := map_strip_snoc2 hjl hjl2 HT.out
      have hat := map_strip_at (xs := xs) (ys := ys) hjl hjl2
      generalize xs[j] = x at *
      generalize ys[j] = y at *
      have HX := Lib.hid (And.intro hst hat)
      clear hst hat hjl hjl2
      obtain ⟨sx, hsx⟩ : ∃ v, x.strip = v := ⟨_, rfl⟩
      obtain ⟨sy, hsy⟩ : ∃ v, y.strip = v := ⟨_, rfl⟩
      rw [hsx, hsy] at hx HX
      obtain ⟨v, hv⟩ : ∃ v, pB (sx = sy) = v := ⟨_, rfl⟩
      rw [hv] at hx
      have HPV := Lib.hid hv
      clear hsx hsy hv
      obtain ⟨op, k, ⟨o, d⟩, a', n', c', kids⟩ := x
      obtain ⟨op2, k2, ⟨o2, d2⟩, a2', n2', c2', kids2⟩ := y
      obtain ⟨r0, r1, r2, r3, r4⟩ := hcell j op k (o, d) a' n' c' kids hgt
      obtain ⟨s0, s1, s2, s3, s4⟩ := hcell2 j op2 k2 (o2, d2) a2' n2' c2' kids2 hgt2
      clear hcell hgt hcell2 hgt2
      subst ha ha2
      unfold fmV S at hx
      unfold S at r2 r3 s2 s3
      simp only at hx r2 r3 s2 s3
      have HQ := Lib.hid hx
      clear hx
      replace st := st.addEl (i := 0) get0 b2 (off2 + j * 5) (.int .i64 op2) [(off2 + j * 5 + 1, .int .i64 k2), (off2 + j * 5 + 2, .string ⟨o2.toArray⟩), (off2 + j * 5 + 3, .string ⟨d2.toArray⟩), (off2 + j * 5 + 4, .slice a2' n2' c2')] ⟨s0, s1, s2, s3, s4, trivial⟩
      simp only [List.cons_append, List.nil_append] at st
      clear s0 s1 s2 s3 s4
      (try simp only [nsl, Value.cells, unB] at st)
      (try clear hc); have hc := st.facts; (try simp only [nfl, nft, elI, elF, Nat.reduceAdd] at hc)
      go_wp2_with ((first
            | ((with_reducible refine wl_alloc ?_ (fun K hK => ?_)); rfl; refine owp_alloc (o := ⟨some 8, _, _, _, _, _⟩) rfl st ?_; apply Exists.intro; apply Exists.intro; refine ⟨?_, ?_⟩; (focus (first | (go_simp; done) | (go_simp; rfl))); (clear st; intro b8 w hb st; clear hb))
            | ((with_reducible refine wl_store ?_ (fun K hK => ?_)); rfl; refine owp_store rfl st ?_; apply Exists.intro; apply Exists.intro; refine ⟨?_, ?_, ?_⟩; (focus (go_simp; try rfl)); (focus (go_simp; try rfl)); (first | (with_reducible refine ⟨0, _, _, _, _, get0, rfl, rfl, ?_, ?_, ?_, ?_⟩) | (with_reducible refine ⟨1, _, _, _, _, get1, rfl, rfl, ?_, ?_, ?_, ?_⟩) | (with_reducible refine ⟨2, _, _, _, _, get2, rfl, rfl, ?_, ?_, ?_, ?_⟩) | (with_reducible refine ⟨3, _, _, _, _, get3, rfl, rfl, ?_, ?_, ?_, ?_⟩)); (kernel_rfl); (simp [Value.cells]); (rfl); (clear st; intro w st))
            | ((with_reducible refine wl_alloc ?_ (fun K hK => ?_)); rfl; refine owp_alloc (o := ⟨some 9, _, _, _, _, _⟩) rfl st ?_; apply Exists.intro; apply Exists.intro; refine ⟨?_, ?_⟩; (focus (first | (go_simp; done) | (go_simp; rfl))); (clear st; intro b9 w hb st; clear hb))); (try simp only [nsl, Value.cells, unB] at st); (try clear hc); have hc := st.facts; (try simp only [nfl, nft, elI, elF, Nat.reduceAdd] at hc))
      refine (HQ.out _ st.ext0).mono ?_
      rintro en w ⟨rfl, hx⟩
      replace st := st.ext hx
      clear hx
      (try clear hc); have hc := st.facts; (try simp only [nfl, nft, elI, elF, Nat.reduceAdd] at hc)
      clear r0 r1 r2 r3 r4
      cases v with
      | false =>
        have HF : Hid (rv = false) := Lib.hid (by
          rw [← HV.out, ← HPP.out]
          refine pB_f fun q => ?_
          have h1 := HPV.out
          rw [pB_t (HX.out.2 q)] at h1
          cases h1)
        go_wp2_with fail
        go_ret
        exact ⟨by rw [HF.out] <;> rfl, st.ext0⟩
      | true =>
        have HF : Hid ((xs.take (j + 1)).map Fm.strip = (ys.take (j + 1)).map Fm.strip) := Lib.hid (HX.out.1 (pB_iff.1 HPV.out))
        go_wp2_with fail
        have st' := st.keep [0] (by decide) (by simp)
        go_roundg (n - (j + 1))
        case measure => omega
        case rel => exact ⟨j + 1, by omega, by omega, by go_num, HF, by simpa [pick] using st'⟩
    · obtain rfl : j = n := by omega
      have HF : Hid (rv = true) := Lib.hid (by
        rw [← HV.out, ← HPP.out]
        refine pB_t ?_
        have := HT.out
        rw [List.take_of_length_le (by have := HN.out; omega), List.take_of_length_le (by have := HN2.out; omega)] at this
        exact this)
      go_wp2_with fail
      go_ret
      exact ⟨by rw [HF.out] <;> rfl, st.ext0⟩
set_option maxRecDepth 100000 in
set_option maxHeartbeats 2000000 in
theorem fmSame_any (f : Fm) : ∀ (g : Fm) (W : World), FmOk W f → FmOk W g →
    Calls Try.prog 46 #[fmV f, fmV g] W fun e w' => e = .returned (.bool (pB (f.strip = g.strip))) ∧ Ext W w' := by
  induction f using Fm.ind
  rename_i op k r a n c kids ih
  intro g W hf hg
  obtain ⟨op2, k2, ⟨o2, d2⟩, a2, n2, c2, kids2⟩ := g
  obtain ⟨o, d⟩ := r
  have hcap : n ≤ 9223372036854775807 := by have := hf.cap; simp only [maxLen] at this; omega
  have hcap2 : n2 ≤ 9223372036854775807 := by have := hg.cap; simp only [maxLen] at this; omega
  have HE := Lib.hid (fun W' (hx : Ext W W') => fmEqualFunc_any a n c kids a2 n2 c2 kids2 W' (Arr.ext hf.fl hx) (Arr.ext hg.fl hx) hcap hcap2 46 #[] (fun _ _ _ => by kernel_rfl) (fun x hx1 y hy1 w hw => ih x hx1 y w (((hf.kids x hx1).ext hx).ext hw) (((hg.kids y hy1).ext hx).ext hw)))
  obtain ⟨ev, hev⟩ : ∃ v, pB (kids.map Fm.strip = kids2.map Fm.strip) = v := ⟨_, rfl⟩
  rw [hev] at HE
  have HV : Hid (pB ((Fm.mk op k (o, d) a n c kids).strip = (Fm.mk op2 k2 (o2, d2) a2 n2 c2 kids2).strip) = (decide (op = op2) && decide (k = k2) && roleEq (o, d) (o2, d2) && ev)) := Lib.hid (pB_of (by
    rw [strip_mk, strip_mk, Fo.mk.injEq, roleEq_eq, Bool.and_eq_true, Bool.and_eq_true, Bool.and_eq_true, decide_eq_true_eq, decide_eq_true_eq, decide_eq_true_eq, ← hev, pB_iff, and_assoc, and_assoc]))
  obtain ⟨e, he⟩ : ∃ v, roleEq (o, d) (o2, d2) = v := ⟨_, rfl⟩
  have heq := eqRole o d o2 d2
  rw [he] at HV heq
  obtain ⟨rv, hrv⟩ : ∃ v, pB ((Fm.mk op k (o, d) a n c kids).strip = (Fm.mk op2 k2 (o2, d2) a2 n2 c2 kids2).strip) = v := ⟨_, rfl⟩
  rw [hrv] at HV ⊢
  clear he hrv hf hg ih hev
  have st := Own.startOld W
  unfold fmV S
  simp only
  by_cases h1 : op = op2
  · by_cases h2 : k = k2
    · have H2 : Hid (rv = (e && ev)) := Lib.hid (by rw [HV.out, decide_eq_true h1, decide_eq_true h2]; simp)
      clear HV
      subst h1 h2
      cases e with
      | true =>
        have HF : Hid (rv = ev) := Lib.hid (by rw [H2.out]; simp)
        (try simp only [nsl, Value.cells, unB] at st)
        (try clear hc); have hc := st.facts; (try simp only [nfl, nft, elI, elF, Nat.reduceAdd] at hc)
        go_enter Try.func46, Try.ntmps46
        go_wp2_with ((first
              | ((with_reducible refine wl_box ?_ (fun K hK => ?_)); rfl; refine owp_box (o := ⟨some 2, _, _, _, _, _⟩) rfl st ?_; apply Exists.intro; refine ⟨?_, ?_⟩; (focus (go_simp; try rfl)); (clear st; intro b2 w hb st; clear hb))
              | ((with_reducible refine wl_box ?_ (fun K hK => ?_)); rfl; refine owp_box (o := ⟨some 3, _, _, _, _, _⟩) rfl st ?_; apply Exists.intro; refine ⟨?_, ?_⟩; (focus (go_simp; try rfl)); (clear st; intro b3 w hb st; clear hb))); (try simp only [nsl, Value.cells, unB] at st); (try clear hc); have hc := st.facts; (try simp only [nfl, nft, elI, elF, Nat.reduceAdd] at hc))
        refine (HE.out _ st.ext0).mono ?_
        rintro en w ⟨rfl, hx⟩
        replace st := st.ext hx
        clear hx
        (try clear hc); have hc := st.facts; (try simp only [nfl, nft, elI, elF, Nat.reduceAdd] at hc)
        go_wp2_with fail
        go_ret
        exact ⟨by rw [HF.out] <;> rfl, st.ext0⟩
      | false =>
        have HF : Hid (rv = false) := Lib.hid (by rw [H2.out]; simp)
        (try simp only [nsl, Value.cells, unB] at st)
        (try clear hc); have hc := st.facts; (try simp only [nfl, nft, elI, elF, Nat.reduceAdd] at hc)
        go_enter Try.func46, Try.ntmps46
        go_wp2_with ((first
              | ((with_reducible refine wl_box ?_ (fun K hK => ?_)); rfl; refine owp_box (o := ⟨some 2, _, _, _, _, _⟩) rfl st ?_; apply Exists.intro; refine ⟨?_, ?_⟩; (focus (go_simp; try rfl)); (clear st; intro b2 w hb st; clear hb))
              | ((with_reducible refine wl_box ?_ (fun K hK => ?_)); rfl; refine owp_box (o := ⟨some 3, _, _, _, _, _⟩) rfl st ?_; apply Exists.intro; refine ⟨?_, ?_⟩; (focus (go_simp; try rfl)); (clear st; intro b3 w hb st; clear hb))); (try simp only [nsl, Value.cells, unB] at st); (try clear hc); have hc := st.facts; (try simp only [nfl, nft, elI, elF, Nat.reduceAdd] at hc))
        go_ret
        exact ⟨by rw [HF.out] <;> rfl, st.ext0⟩
    · have HF : Hid (rv = false) := Lib.hid (by rw [HV.out, decide_eq_false h2]; simp)
      have hkb : (k == k2) = false := by simpa using h2
      clear HV
      subst h1
      clear h2
      (try simp only [nsl, Value.cells, unB] at st)
      (try clear hc); have hc := st.facts; (try simp only [nfl, nft, elI, elF, Nat.reduceAdd] at hc)
      go_enter Try.func46, Try.ntmps46
      go_wp2_with ((first
            | ((with_reducible refine wl_box ?_ (fun K hK => ?_)); rfl; refine owp_box (o := ⟨some 2, _, _, _, _, _⟩) rfl st ?_; apply Exists.intro; refine ⟨?_, ?_⟩; (focus (go_simp; try rfl)); (clear st; intro b2 w hb st; clear hb))
            | ((with_reducible refine wl_box ?_ (fun K hK => ?_)); rfl; refine owp_box (o := ⟨some 3, _, _, _, _, _⟩) rfl st ?_; apply Exists.intro; refine ⟨?_, ?_⟩; (focus (go_simp; try rfl)); (clear st; intro b3 w hb st; clear hb))); (try simp only [nsl, Value.cells, unB] at st); (try clear hc); have hc := st.facts; (try simp only [nfl, nft, elI, elF, Nat.reduceAdd] at hc))
      go_ret
      exact ⟨by rw [HF.out] <;> rfl, st.ext0⟩
  · have HF : Hid (rv = false) := Lib.hid (by rw [HV.out, decide_eq_false h1]; simp)
    have hob : (op == op2) = false := by simpa using h1
    clear h1 HV
    (try simp only [nsl, Value.cells, unB] at st)
    (try clear hc); have hc := st.facts; (try simp only [nfl, nft, elI, elF, Nat.reduceAdd] at hc)
    go_enter Try.func46, Try.ntmps46
    go_wp2_with ((first
          | ((with_reducible refine wl_box ?_ (fun K hK => ?_)); rfl; refine owp_box (o := ⟨some 2, _, _, _, _, _⟩) rfl st ?_; apply Exists.intro; refine ⟨?_, ?_⟩; (focus (go_simp; try rfl)); (clear st; intro b2 w hb st; clear hb))
          | ((with_reducible refine wl_box ?_ (fun K hK => ?_)); rfl; refine owp_box (o := ⟨some 3, _, _, _, _, _⟩) rfl st ?_; apply Exists.intro; refine ⟨?_, ?_⟩; (focus (go_simp; try rfl)); (clear st; intro b3 w hb st; clear hb))); (try simp only [nsl, Value.cells, unB] at st); (try clear hc); have hc := st.facts; (try simp only [nfl, nft, elI, elF, Nat.reduceAdd] at hc))
    go_ret
    exact ⟨by rw [HF.out] <;> rfl, st.ext0⟩
end Go.Proofs.Ythjaopojlhdjpaa

namespace Go.Proofs.Ythjaopojlhdjpaa
set_option linter.unusedSimpArgs false
set_option linter.unusedVariables false
open Go Go.RowKit
theorem bytesOf_by {P : Program} {w : World} {a : Option Addr} {n c : Nat} {xs : List UInt8} (h : By w a n xs) : (Extern.Bytes.bytesOf (.slice a n c)).run P w = .ok ⟨xs.toArray⟩ w := by
  have hn := h.1
  rcases Nat.eq_zero_or_pos n with h0 | h0
  · have hx : xs = [] := List.eq_nil_of_length_eq_zero (by omega)
    subst hx
    subst h0
    cases a with
    | none => rfl
    | some ad => rfl
  · obtain ⟨b, off, rfl, hc, _⟩ := h.at h0
    have hl := Lib.run_loadBytesX (P := P) w (xs.map fun x => (x.toNat : Int)) ⟨b, off, none⟩ .empty (fun j x hj => by
      rw [List.getElem?_map] at hj
      cases hq : xs[j]? with
      | none => rw [hq] at hj; cases hj
      | some y => rw [hq] at hj; simp at hj; subst hj; rw [addr_add]; exact hc j y hq)
    rw [List.length_map, ← hn] at hl
    change (Extern.Bytes.loadBytes ⟨b, off, none⟩ n .empty).run P w = _
    rw [hl]
    congr 1
    apply ByteArray.ext
    simp [Lib.bytesOf]
    rw [show ((fun n : Int => UInt8.ofNat n.toNat) ∘ fun x : UInt8 => (x.toNat : Int)) = id from by funext x; simp, List.map_id]
theorem cmpExt {P : Program} {w : World} {a a' : Option Addr} {n n' c c' : Nat} {xs ys : List UInt8} (h : By w a n xs) (h' : By w a' n' ys) :
    (Extern.BytealgCompare.compare #[.slice a n c, .slice a' n' c']).run P w = .ok (.int .i64 (cmp2 xs ys)) w := by
  change Sem.run P (do pure (goInt (Extern.BytealgCompare.cmp (← Extern.Bytes.bytesOf (.slice a n c)) (← Extern.Bytes.bytesOf (.slice a' n' c'))))) w = _
  simp only [Sem.run_bind, Sem.run_pure, bytesOf_by h, bytesOf_by h', Result.andThen]
  rw [Lib.cmp_eq, cmpBytes_eq]
  rfl
set_option maxRecDepth 100000 in
set_option maxHeartbeats 1000000 in
theorem bytesCompare_any {W : World} {a a' : Option Addr} {n n' c c' : Nat} {xs ys : List UInt8} (h : By W a n xs) (h' : By W a' n' ys) :
    Calls Try.prog 82 #[.slice a n c, .slice a' n' c'] W fun e w' => e = .returned (.int .i64 (cmp2 xs ys)) ∧ Ext W w' := by
  have H := Lib.hid (cmpExt (P := Try.prog) (c := c) (c' := c') h h')
  clear h h'
  have st := Own.startOld W
  (try simp only [nsl, Value.cells, unB] at st)
  (try clear hc); have hc := st.facts; (try simp only [nfl, nft, Nat.reduceAdd] at hc)
  go_enter Try.func82, Try.ntmps82
  go_wp2_with fail
  rw [run_callFunc_extern Try.func120 (by kernel_rfl) (by kernel_rfl) (by kernel_rfl) (e := Extern.BytealgCompare.compare) (by kernel_rfl), H.out]
  simp only [Result.andThen]
  rw [Oper.upon_value]
  go_wp2_with fail
  go_ret
  exact ⟨rfl, st.ext0⟩
end Go.Proofs.Ythjaopojlhdjpaa

namespace Go.Proofs.Ythjaopojlhdjpaa
set_option linter.unusedSimpArgs false
set_option linter.unusedVariables false
open Go Go.RowKit
theorem roleB_len {r : Role} (h : roleR r = true) : (roleB r).length ≤ 52 := by
  obtain ⟨o, d⟩ := r
  have hr : nameR o = true ∧ nameR d = true := by simpa [roleR] using h
  have h1 := (nameR_len hr.1).2
  have h2 := (nameR_len hr.2).2
  have h3 : (numB o.length).length ≤ 10 := numF_len 10 _
  have h4 : (numB d.length).length ≤ 10 := numF_len 10 _
  unfold roleB
  simp only [List.length_append]
  omega
theorem well_parts {op k : Int} {r : Role} {kids : List Fo} (h : (Fo.mk op k r kids).well = true) : nodeR op k r kids.length = true ∧ kids.length ≤ 8 ∧ ∀ x ∈ kids, x.well = true := by
  rw [Fo.well, Bool.and_eq_true, Bool.and_eq_true, decide_eq_true_eq, wellL_all, List.all_eq_true] at h
  exact ⟨h.1.1, h.1.2, h.2⟩
theorem node_op {op k : Int} {r : Role} {n : Nat} (h : nodeR op k r n = true) : (op = 1 ∧ roleR r = true ∧ n = 0 ∧ k = 0) ∨ ((op = 2 ∨ op = 3) ∧ r = ([], []) ∧ k = 0) ∨ (op = 4 ∧ r = ([], []) ∧ 0 ≤ k ∧ k ≤ (n : Int) ∧ 1 ≤ n) := by
  unfold nodeR at h
  split at h
  · rename_i o1
    simp only [Bool.and_eq_true, decide_eq_true_eq] at h
    exact .inl ⟨o1, h.1.1, h.1.2, h.2⟩
  · split at h
    · rename_i o2
      simp only [Bool.and_eq_true, decide_eq_true_eq] at h
      exact .inr (.inl ⟨o2, h.1, h.2⟩)
    · simp only [Bool.and_eq_true, decide_eq_true_eq] at h
      exact .inr (.inr ⟨h.1.1.1.1, h.1.1.1.2, h.1.1.2, h.1.2, h.2⟩)
theorem bytes_len (f : Fo) : f.well = true → f.bytes.length ≤ 70 * f.nodes := by
  refine Fo.ind (P := fun f => f.well = true → f.bytes.length ≤ 70 * f.nodes) (fun op k r kids ih h => ?_) f
  obtain ⟨h1, h2, h3⟩ := well_parts h
  rw [Fo.bytes, Fo.nodes]
  have n1 : (numB op.toNat).length ≤ 10 := numF_len 10 _
  have n2 : (numB k.toNat).length ≤ 10 := numF_len 10 _
  have n3 : (numB kids.length).length ≤ 10 := numF_len 10 _
  have hb : (bytesL kids).length ≤ 70 * nodesL kids := by
    clear h1 h2 h n3
    induction kids with
    | nil => simp [bytesL]
    | cons x l ihl =>
      have q1 := ih x (by simp) (h3 x (by simp))
      have q2 := ihl (fun y hy => ih y (by simp [hy])) (fun y hy => h3 y (by simp [hy]))
      rw [bytesL, nodesL, List.length_append]
      omega
  rw [List.length_append]
  split
  · rename_i o1
    rcases node_op h1 with ⟨_, hr, _⟩ | ⟨q, _⟩ | ⟨q, _⟩
    · have := roleB_len hr; omega
    · omega
    · omega
  · rw [List.length_append, List.length_append]
    split
    · omega
    · simp only [List.length_nil]; omega
theorem bytesL_take_len (l : List Fo) (h : ∀ x ∈ l, x.well = true) (j : Nat) : (bytesL (l.take j)).length ≤ 70 * nodesL (l.take j) := by
  induction l generalizing j with
  | nil => simp [bytesL]
  | cons x l ih =>
    cases j with
    | zero => simp [bytesL]
    | succ j =>
      have := ih (fun y hy => h y (by simp [hy])) j
      have := bytes_len x (h x (by simp))
      rw [List.take_succ_cons, bytesL, nodesL, List.length_append]
      omega
set_option maxRecDepth 100000 in
set_option maxHeartbeats 4000000 in
theorem fmPut0_c (f : Fm) : ∀ (fr al : Nat → Prop) (W : World) (p : Nat) (xs : List UInt8), Own fr al W [penI p xs, fmI f] W → f.strip.well = true → xs.length + 70 * f.strip.nodes ≤ 1000000 →
    Calls Try.prog 76 #[.pointer (some ⟨p, 0, none⟩), fmV f] W fun e w' => e = .returned (.tuple #[]) ∧ Own fr al W [penI p (xs ++ f.strip.bytes), fmI f] w' := by
  induction f using Fm.ind
  rename_i op k r a n c kids ih
  intro fr al W p xs st hw hs
  rw [strip_mk] at *
  obtain ⟨h1, h2, h3⟩ := well_parts hw
  rw [Fo.nodes] at hs
  have HWK := Lib.hid h3
  have HI := Lib.hid ih
  have HS := Lib.hid hs
  have hnl := (st.fm (i := 1) get1).fl.1
  have HN := Lib.hid hnl
  rw [List.length_map, ← hnl] at h1 h2
  have hxl : xs.length ≤ 1000000 := by omega
  clear hw h3 ih hs hnl
  rcases node_op h1 with ⟨rfl, hr, rfl, rfl⟩ | ⟨o23, rfl, rfl⟩ | ⟨rfl, rfl, hk0, hkn, hn1⟩
  · have HRP := Lib.hid (fun (fr al : Nat → Prop) (W : World) (p : Nat) (xs : List UInt8) (st : Own fr al W [penI p xs] W) (h : xs.length ≤ 9000000) => rolePut_yes st r hr h)
    have HB : Hid ((Fo.mk 1 0 r (kids.map Fm.strip)).bytes = numB 1 ++ roleB r) := Lib.hid (by rw [Fo.bytes]; rfl)
    have hn1 : (numB 1).length ≤ 10 := numF_len 10 _
    obtain ⟨o, d⟩ := r
    generalize roleB (o, d) = u at *
    rw [HB.out]
    unfold rV S at HRP
    simp only at HRP
    clear h1 hr
    unfold fmV S
    simp only
    (try simp only [nsl, Value.cells, unB] at st)
    (try clear hc); have hc := st.facts; (try simp only [nfl, nft, Nat.reduceAdd] at hc)
    go_enter Try.func76, Try.ntmps76
    go_wp2_with ((first
          | ((with_reducible refine wl_box ?_ (fun K hK => ?_)); rfl; refine owp_box (o := ⟨some 3, _, _, _, _, _⟩) rfl st ?_; apply Exists.intro; refine ⟨?_, ?_⟩; (focus (go_simp; try rfl)); (clear st; intro b3 w hb st; clear hb))
          | ((with_reducible refine wl_alloc ?_ (fun K hK => ?_)); rfl; refine owp_alloc (o := ⟨some 5, _, _, _, _, _⟩) rfl st ?_; apply Exists.intro; apply Exists.intro; refine ⟨?_, ?_⟩; (focus (first | (go_simp; done) | (go_simp; rfl))); (clear st; intro b5 w hb st; clear hb))
          | ((with_reducible refine wl_store ?_ (fun K hK => ?_)); rfl; refine owp_store rfl st ?_; apply Exists.intro; apply Exists.intro; refine ⟨?_, ?_, ?_⟩; (focus (go_simp; try rfl)); (focus (go_simp; try rfl)); (first | (with_reducible refine ⟨0, _, _, _, _, get0, rfl, rfl, ?_, ?_, ?_, ?_⟩) | (with_reducible refine ⟨1, _, _, _, _, get1, rfl, rfl, ?_, ?_, ?_, ?_⟩) | (with_reducible refine ⟨2, _, _, _, _, get2, rfl, rfl, ?_, ?_, ?_, ?_⟩) | (with_reducible refine ⟨3, _, _, _, _, get3, rfl, rfl, ?_, ?_, ?_, ?_⟩) | (with_reducible refine ⟨4, _, _, _, _, get4, rfl, rfl, ?_, ?_, ?_, ?_⟩) | (with_reducible refine ⟨5, _, _, _, _, get5, rfl, rfl, ?_, ?_, ?_, ?_⟩)); (kernel_rfl); (simp [Value.cells]); (rfl); (clear st; intro w st))); (try simp only [nsl, Value.cells, unB] at st); (try clear hc); have hc := st.facts; (try simp only [nfl, nft, Nat.reduceAdd] at hc))
    obtain ⟨fr', al', st', back⟩ := st.sub [0] (by decide) (by simp)
    (try simp only [nsl, Value.cells, unB] at st')
    refine (penNumber_c st' 1 (by decide) (by omega)).mono ?_
    clear st'
    rintro en w ⟨rfl, st'⟩
    replace st := back _ _ (by simp) st'
    clear back st'
    (try simp only [nsl, Value.cells, unB] at st)
    (try clear hc); have hc := st.facts; (try simp only [nfl, nft, Nat.reduceAdd] at hc)
    go_wp2_with ((first
          | ((with_reducible refine wl_box ?_ (fun K hK => ?_)); rfl; refine owp_box (o := ⟨some 3, _, _, _, _, _⟩) rfl st ?_; apply Exists.intro; refine ⟨?_, ?_⟩; (focus (go_simp; try rfl)); (clear st; intro b3 w hb st; clear hb))
          | ((with_reducible refine wl_alloc ?_ (fun K hK => ?_)); rfl; refine owp_alloc (o := ⟨some 5, _, _, _, _, _⟩) rfl st ?_; apply Exists.intro; apply Exists.intro; refine ⟨?_, ?_⟩; (focus (first | (go_simp; done) | (go_simp; rfl))); (clear st; intro b5 w hb st; clear hb))
          | ((with_reducible refine wl_store ?_ (fun K hK => ?_)); rfl; refine owp_store rfl st ?_; apply Exists.intro; apply Exists.intro; refine ⟨?_, ?_, ?_⟩; (focus (go_simp; try rfl)); (focus (go_simp; try rfl)); (first | (with_reducible refine ⟨0, _, _, _, _, get0, rfl, rfl, ?_, ?_, ?_, ?_⟩) | (with_reducible refine ⟨1, _, _, _, _, get1, rfl, rfl, ?_, ?_, ?_, ?_⟩) | (with_reducible refine ⟨2, _, _, _, _, get2, rfl, rfl, ?_, ?_, ?_, ?_⟩) | (with_reducible refine ⟨3, _, _, _, _, get3, rfl, rfl, ?_, ?_, ?_, ?_⟩) | (with_reducible refine ⟨4, _, _, _, _, get4, rfl, rfl, ?_, ?_, ?_, ?_⟩) | (with_reducible refine ⟨5, _, _, _, _, get5, rfl, rfl, ?_, ?_, ?_, ?_⟩)); (kernel_rfl); (simp [Value.cells]); (rfl); (clear st; intro w st))); (try simp only [nsl, Value.cells, unB] at st); (try clear hc); have hc := st.facts; (try simp only [nfl, nft, Nat.reduceAdd] at hc))
    obtain ⟨fr', al', st', back⟩ := st.sub [0] (by decide) (by simp)
    (try simp only [nsl, Value.cells, unB] at st')
    refine (HRP.out _ _ _ _ _ st' (by simp only [List.length_append]; omega)).mono ?_
    clear st'
    rintro en w ⟨rfl, st'⟩
    replace st := back _ _ (by simp) st'
    clear back st'
    (try simp only [nsl, Value.cells, unB] at st)
    (try clear hc); have hc := st.facts; (try simp only [nfl, nft, Nat.reduceAdd] at hc)
    go_wp2_with ((first
          | ((with_reducible refine wl_box ?_ (fun K hK => ?_)); rfl; refine owp_box (o := ⟨some 3, _, _, _, _, _⟩) rfl st ?_; apply Exists.intro; refine ⟨?_, ?_⟩; (focus (go_simp; try rfl)); (clear st; intro b3 w hb st; clear hb))
          | ((with_reducible refine wl_alloc ?_ (fun K hK => ?_)); rfl; refine owp_alloc (o := ⟨some 5, _, _, _, _, _⟩) rfl st ?_; apply Exists.intro; apply Exists.intro; refine ⟨?_, ?_⟩; (focus (first | (go_simp; done) | (go_simp; rfl))); (clear st; intro b5 w hb st; clear hb))
          | ((with_reducible refine wl_store ?_ (fun K hK => ?_)); rfl; refine owp_store rfl st ?_; apply Exists.intro; apply Exists.intro; refine ⟨?_, ?_, ?_⟩; (focus (go_simp; try rfl)); (focus (go_simp; try rfl)); (first | (with_reducible refine ⟨0, _, _, _, _, get0, rfl, rfl, ?_, ?_, ?_, ?_⟩) | (with_reducible refine ⟨1, _, _, _, _, get1, rfl, rfl, ?_, ?_, ?_, ?_⟩) | (with_reducible refine ⟨2, _, _, _, _, get2, rfl, rfl, ?_, ?_, ?_, ?_⟩) | (with_reducible refine ⟨3, _, _, _, _, get3, rfl, rfl, ?_, ?_, ?_, ?_⟩) | (with_reducible refine ⟨4, _, _, _, _, get4, rfl, rfl, ?_, ?_, ?_, ?_⟩) | (with_reducible refine ⟨5, _, _, _, _, get5, rfl, rfl, ?_, ?_, ?_, ?_⟩)); (kernel_rfl); (simp [Value.cells]); (rfl); (clear st; intro w st))); (try simp only [nsl, Value.cells, unB] at st); (try clear hc); have hc := st.facts; (try simp only [nfl, nft, Nat.reduceAdd] at hc))
    (try simp only [Exit.inBlock, Exit.then])
    refine bodyPost_ret (results_none rfl _ _ _) rfl ?_
    have st' := st.keep [0, 1] (by decide) (by simp)
    exact ⟨rfl, by simpa [pick, List.append_assoc] using st'⟩
  · have hn1 : ∀ m, (numB m).length ≤ 10 := fun m => numF_len 10 _
    have hkl : n < 9223372036854775808 := by omega
    unfold fmV S
    simp only
    clear h1
    rcases o23 with rfl | rfl
    · have HPL : Hid ((xs ++ numB 2 ++ numB n).length ≤ xs.length + 30) := Lib.hid (by have := hn1 2; have := hn1 n; simp only [List.length_append]; omega)
      have hq := hn1 2
      clear hn1
      (try simp only [nsl, Value.cells, unB] at st)
      (try clear hc); have hc := st.facts; (try simp only [nfl, nft, Nat.reduceAdd] at hc)
      go_enter Try.func76, Try.ntmps76
      go_wp2_with ((first
            | ((with_reducible refine wl_box ?_ (fun K hK => ?_)); rfl; refine owp_box (o := ⟨some 3, _, _, _, _, _⟩) rfl st ?_; apply Exists.intro; refine ⟨?_, ?_⟩; (focus (go_simp; try rfl)); (clear st; intro b3 w hb st; clear hb))
            | ((with_reducible refine wl_alloc ?_ (fun K hK => ?_)); rfl; refine owp_alloc (o := ⟨some 5, _, _, _, _, _⟩) rfl st ?_; apply Exists.intro; apply Exists.intro; refine ⟨?_, ?_⟩; (focus (first | (go_simp; done) | (go_simp; rfl))); (clear st; intro b5 w hb st; clear hb))
            | ((with_reducible refine wl_store ?_ (fun K hK => ?_)); rfl; refine owp_store rfl st ?_; apply Exists.intro; apply Exists.intro; refine ⟨?_, ?_, ?_⟩; (focus (go_simp; try rfl)); (focus (go_simp; try rfl)); (first | (with_reducible refine ⟨0, _, _, _, _, get0, rfl, rfl, ?_, ?_, ?_, ?_⟩) | (with_reducible refine ⟨1, _, _, _, _, get1, rfl, rfl, ?_, ?_, ?_, ?_⟩) | (with_reducible refine ⟨2, _, _, _, _, get2, rfl, rfl, ?_, ?_, ?_, ?_⟩) | (with_reducible refine ⟨3, _, _, _, _, get3, rfl, rfl, ?_, ?_, ?_, ?_⟩) | (with_reducible refine ⟨4, _, _, _, _, get4, rfl, rfl, ?_, ?_, ?_, ?_⟩) | (with_reducible refine ⟨5, _, _, _, _, get5, rfl, rfl, ?_, ?_, ?_, ?_⟩)); (kernel_rfl); (simp [Value.cells]); (rfl); (clear st; intro w st))); (try simp only [nsl, Value.cells, unB] at st); (try clear hc); have hc := st.facts; (try simp only [nfl, nft, Nat.reduceAdd] at hc))
      obtain ⟨fr', al', st', back⟩ := st.sub [0] (by decide) (by simp)
      (try simp only [nsl, Value.cells, unB] at st')
      refine (penNumber_c st' 2 (by decide) (by omega)).mono ?_
      clear st'
      rintro en w ⟨rfl, st'⟩
      replace st := back _ _ (by simp) st'
      clear back st'
      (try simp only [nsl, Value.cells, unB] at st)
      (try clear hc); have hc := st.facts; (try simp only [nfl, nft, Nat.reduceAdd] at hc)
      go_wp2_with ((first
            | ((with_reducible refine wl_box ?_ (fun K hK => ?_)); rfl; refine owp_box (o := ⟨some 3, _, _, _, _, _⟩) rfl st ?_; apply Exists.intro; refine ⟨?_, ?_⟩; (focus (go_simp; try rfl)); (clear st; intro b3 w hb st; clear hb))
            | ((with_reducible refine wl_alloc ?_ (fun K hK => ?_)); rfl; refine owp_alloc (o := ⟨some 5, _, _, _, _, _⟩) rfl st ?_; apply Exists.intro; apply Exists.intro; refine ⟨?_, ?_⟩; (focus (first | (go_simp; done) | (go_simp; rfl))); (clear st; intro b5 w hb st; clear hb))
            | ((with_reducible refine wl_store ?_ (fun K hK => ?_)); rfl; refine owp_store rfl st ?_; apply Exists.intro; apply Exists.intro; refine ⟨?_, ?_, ?_⟩; (focus (go_simp; try rfl)); (focus (go_simp; try rfl)); (first | (with_reducible refine ⟨0, _, _, _, _, get0, rfl, rfl, ?_, ?_, ?_, ?_⟩) | (with_reducible refine ⟨1, _, _, _, _, get1, rfl, rfl, ?_, ?_, ?_, ?_⟩) | (with_reducible refine ⟨2, _, _, _, _, get2, rfl, rfl, ?_, ?_, ?_, ?_⟩) | (with_reducible refine ⟨3, _, _, _, _, get3, rfl, rfl, ?_, ?_, ?_, ?_⟩) | (with_reducible refine ⟨4, _, _, _, _, get4, rfl, rfl, ?_, ?_, ?_, ?_⟩) | (with_reducible refine ⟨5, _, _, _, _, get5, rfl, rfl, ?_, ?_, ?_, ?_⟩)); (kernel_rfl); (simp [Value.cells]); (rfl); (clear st; intro w st))); (try simp only [nsl, Value.cells, unB] at st); (try clear hc); have hc := st.facts; (try simp only [nfl, nft, Nat.reduceAdd] at hc))
      obtain ⟨fr', al', st', back⟩ := st.sub [0] (by decide) (by simp)
      (try simp only [nsl, Value.cells, unB] at st')
      refine (penNumber_c st' n hkl (by simp only [List.length_append]; omega)).mono ?_
      clear st'
      rintro en w ⟨rfl, st'⟩
      replace st := back _ _ (by simp) st'
      clear back st'
      (try simp only [nsl, Value.cells, unB] at st)
      (try clear hc); have hc := st.facts; (try simp only [nfl, nft, Nat.reduceAdd] at hc)
      go_wp2_with ((first
            | ((with_reducible refine wl_box ?_ (fun K hK => ?_)); rfl; refine owp_box (o := ⟨some 3, _, _, _, _, _⟩) rfl st ?_; apply Exists.intro; refine ⟨?_, ?_⟩; (focus (go_simp; try rfl)); (clear st; intro b3 w hb st; clear hb))
            | ((with_reducible refine wl_alloc ?_ (fun K hK => ?_)); rfl; refine owp_alloc (o := ⟨some 5, _, _, _, _, _⟩) rfl st ?_; apply Exists.intro; apply Exists.intro; refine ⟨?_, ?_⟩; (focus (first | (go_simp; done) | (go_simp; rfl))); (clear st; intro b5 w hb st; clear hb))
            | ((with_reducible refine wl_store ?_ (fun K hK => ?_)); rfl; refine owp_store rfl st ?_; apply Exists.intro; apply Exists.intro; refine ⟨?_, ?_, ?_⟩; (focus (go_simp; try rfl)); (focus (go_simp; try rfl)); (first | (with_reducible refine ⟨0, _, _, _, _, get0, rfl, rfl, ?_, ?_, ?_, ?_⟩) | (with_reducible refine ⟨1, _, _, _, _, get1, rfl, rfl, ?_, ?_, ?_, ?_⟩) | (with_reducible refine ⟨2, _, _, _, _, get2, rfl, rfl, ?_, ?_, ?_, ?_⟩) | (with_reducible refine ⟨3, _, _, _, _, get3, rfl, rfl, ?_, ?_, ?_, ?_⟩) | (with_reducible refine ⟨4, _, _, _, _, get4, rfl, rfl, ?_, ?_, ?_, ?_⟩) | (with_reducible refine ⟨5, _, _, _, _, get5, rfl, rfl, ?_, ?_, ?_, ?_⟩)); (kernel_rfl); (simp [Value.cells]); (rfl); (clear st; intro w st))); (try simp only [nsl, Value.cells, unB] at st); (try clear hc); have hc := st.facts; (try simp only [nfl, nft, Nat.reduceAdd] at hc))
      go_loopg [32] n (fun q i wr => ∃ (j : Nat) (ys : List UInt8), j ≤ n ∧ q = n - j ∧ i = .int .i64 (j : Int) ∧ Hid (ys = (xs ++ numB 2 ++ numB n) ++ bytesL ((kids.take j).map Fm.strip)) ∧ Own fr al W [penI p ys, fmI (.mk 2 0 ([], []) a n c kids), blkI b3 [.int .i64 2, .int .i64 0, .string ⟨#[]⟩, .string ⟨#[]⟩, .slice a n c]] wr)
      case atStart => exact ⟨0, xs ++ numB 2 ++ numB n, by omega, by omega, rfl, Lib.hid (by simp [bytesL]), by simpa [List.append_assoc] using st⟩
      case round =>
        obtain ⟨j, ys, hj, rfl, rfl, HY, st'⟩ := hrel
        clear st hc
        have st := st'
        clear st'
        by_cases hjn : j < n
        · obtain ⟨b, off, ha, hcell⟩ := (st.fm (i := 1) get1).fl.fm (by omega)
          have hjl : j < kids.length := by have := HN.out; omega
          have hsn := map_snoc_strip kids j hjl
          have hle := nodesL_take (kids.map Fm.strip) (j + 1)
          rw [← List.map_take, hsn, nodesL_snoc] at hle
          have hbl := bytesL_take_len (kids.map Fm.strip) HWK.out j
          rw [← List.map_take] at hbl
          have hih := HI.out _ (List.getElem_mem hjl)
          have hwk := HWK.out _ (List.mem_map.2 ⟨_, List.getElem_mem hjl, rfl⟩)
          have hgt := List.getElem?_eq_getElem hjl
          replace st := st.fmKid (i := 1) get1 (List.getElem_mem hjl)
          have hpl := HPL.out
          have hss := HS.out
          have hyl : ys.length ≤ xs.length + 30 + 70 * nodesL ((kids.take j).map Fm.strip) := by rw [HY.out, List.length_append]; simp only [List.length_append] at hpl ⊢; omega
          generalize kids[j] = x at *
          have HC := Lib.hid (fun (fr al : Nat → Prop) (W : World) (st : Own fr al W [penI p ys, fmI x] W) => hih fr al W p ys st hwk (by omega))
          obtain ⟨sx, hsx⟩ : ∃ v, x.strip = v := ⟨_, rfl⟩
          have HY2 : Hid (ys ++ x.strip.bytes = (xs ++ numB 2 ++ numB n) ++ bytesL ((kids.take (j + 1)).map Fm.strip)) := Lib.hid (by rw [hsn, bytesL_snoc, HY.out, List.append_assoc])
          rw [hsx] at HC HY2
          clear hsx hsn hle hbl hih hwk hpl hss hyl hjl
          generalize sx.bytes = zs at *
          simp only [List.cons_append, List.nil_append] at st
          obtain ⟨fx, hfx⟩ : ∃ f, x = f := ⟨_, rfl⟩
          have hfx2 := hfx
          obtain ⟨op', k', ⟨o', d'⟩, a', n', c', kids'⟩ := x
          obtain ⟨r0, r1, r2, r3, r4⟩ := hcell j op' k' (o', d') a' n' c' kids' hgt
          have HV : Hid (fmV fx = .agg #[.int .i64 op', .int .i64 k', .string ⟨o'.toArray⟩, .string ⟨d'.toArray⟩, .slice a' n' c']) := Lib.hid (by rw [← hfx]; rfl)
          rw [hfx] at HC st
          clear hcell hgt hfx hfx2
          rw [HV.out] at HC
          subst ha
          unfold S at r2 r3
          simp only at r2 r3
          (try simp only [nsl, Value.cells, unB] at st)
          (try clear hc); have hc := st.facts; (try simp only [nfl, nft, Nat.reduceAdd] at hc)
          go_wp2_with ((first
                | ((with_reducible refine wl_box ?_ (fun K hK => ?_)); rfl; refine owp_box (o := ⟨some 3, _, _, _, _, _⟩) rfl st ?_; apply Exists.intro; refine ⟨?_, ?_⟩; (focus (go_simp; try rfl)); (clear st; intro b3 w hb st; clear hb))
                | ((with_reducible refine wl_alloc ?_ (fun K hK => ?_)); rfl; refine owp_alloc (o := ⟨some 5, _, _, _, _, _⟩) rfl st ?_; apply Exists.intro; apply Exists.intro; refine ⟨?_, ?_⟩; (focus (first | (go_simp; done) | (go_simp; rfl))); (clear st; intro b5 w hb st; clear hb))
                | ((with_reducible refine wl_store ?_ (fun K hK => ?_)); rfl; refine owp_store rfl st ?_; apply Exists.intro; apply Exists.intro; refine ⟨?_, ?_, ?_⟩; (focus (go_simp; try rfl)); (focus (go_simp; try rfl)); (first | (with_reducible refine ⟨0, _, _, _, _, get0, rfl, rfl, ?_, ?_, ?_, ?_⟩) | (with_reducible refine ⟨1, _, _, _, _, get1, rfl, rfl, ?_, ?_, ?_, ?_⟩) | (with_reducible refine ⟨2, _, _, _, _, get2, rfl, rfl, ?_, ?_, ?_, ?_⟩) | (with_reducible refine ⟨3, _, _, _, _, get3, rfl, rfl, ?_, ?_, ?_, ?_⟩) | (with_reducible refine ⟨4, _, _, _, _, get4, rfl, rfl, ?_, ?_, ?_, ?_⟩) | (with_reducible refine ⟨5, _, _, _, _, get5, rfl, rfl, ?_, ?_, ?_, ?_⟩)); (kernel_rfl); (simp [Value.cells]); (rfl); (clear st; intro w st))); (try simp only [nsl, Value.cells, unB] at st); (try clear hc); have hc := st.facts; (try simp only [nfl, nft, Nat.reduceAdd] at hc))
          clear r0 r1 r2 r3 r4
          obtain ⟨fr', al', st', back⟩ := st.sub [0, 3] (by decide) (by simp)
          (try simp only [nsl, Value.cells, unB] at st')
          refine (HC.out _ _ _ st').mono ?_
          clear st'
          rintro en w ⟨rfl, st'⟩
          replace st := back _ _ (by simp) st'
          clear back st'
          (try simp only [nsl, Value.cells, unB] at st)
          (try clear hc); have hc := st.facts; (try simp only [nfl, nft, Nat.reduceAdd] at hc)
          go_wp2_with ((first
                | ((with_reducible refine wl_box ?_ (fun K hK => ?_)); rfl; refine owp_box (o := ⟨some 3, _, _, _, _, _⟩) rfl st ?_; apply Exists.intro; refine ⟨?_, ?_⟩; (focus (go_simp; try rfl)); (clear st; intro b3 w hb st; clear hb))
                | ((with_reducible refine wl_alloc ?_ (fun K hK => ?_)); rfl; refine owp_alloc (o := ⟨some 5, _, _, _, _, _⟩) rfl st ?_; apply Exists.intro; apply Exists.intro; refine ⟨?_, ?_⟩; (focus (first | (go_simp; done) | (go_simp; rfl))); (clear st; intro b5 w hb st; clear hb))
                | ((with_reducible refine wl_store ?_ (fun K hK => ?_)); rfl; refine owp_store rfl st ?_; apply Exists.intro; apply Exists.intro; refine ⟨?_, ?_, ?_⟩; (focus (go_simp; try rfl)); (focus (go_simp; try rfl)); (first | (with_reducible refine ⟨0, _, _, _, _, get0, rfl, rfl, ?_, ?_, ?_, ?_⟩) | (with_reducible refine ⟨1, _, _, _, _, get1, rfl, rfl, ?_, ?_, ?_, ?_⟩) | (with_reducible refine ⟨2, _, _, _, _, get2, rfl, rfl, ?_, ?_, ?_, ?_⟩) | (with_reducible refine ⟨3, _, _, _, _, get3, rfl, rfl, ?_, ?_, ?_, ?_⟩) | (with_reducible refine ⟨4, _, _, _, _, get4, rfl, rfl, ?_, ?_, ?_, ?_⟩) | (with_reducible refine ⟨5, _, _, _, _, get5, rfl, rfl, ?_, ?_, ?_, ?_⟩)); (kernel_rfl); (simp [Value.cells]); (rfl); (clear st; intro w st))); (try simp only [nsl, Value.cells, unB] at st); (try clear hc); have hc := st.facts; (try simp only [nfl, nft, Nat.reduceAdd] at hc))
          have st' := st.keep [0, 1, 2] (by decide) (by simp)
          go_roundg (n - (j + 1))
          case measure => omega
          case rel => exact ⟨j + 1, _, by omega, by omega, by go_num, HY2, by simpa [pick] using st'⟩
        · obtain rfl : n = j := by omega
          have HE : Hid (ys = xs ++ (Fo.mk 2 0 ([], []) (kids.map Fm.strip)).bytes) := Lib.hid (by
            rw [HY.out, List.take_of_length_le (by have := HN.out; omega), Fo.bytes, List.length_map, ← HN.out]
            simp [List.append_assoc])
          (try simp only [nsl, Value.cells, unB] at st)
          (try clear hc); have hc := st.facts; (try simp only [nfl, nft, Nat.reduceAdd] at hc)
          go_wp2_with fail
          go_end0
          have st' := st.keep [0, 1] (by decide) (by simp)
          refine ⟨rfl, ?_⟩
          rw [← HE.out]
          simpa [pick] using st'
    · have HPL : Hid ((xs ++ numB 3 ++ numB n).length ≤ xs.length + 30) := Lib.hid (by have := hn1 3; have := hn1 n; simp only [List.length_append]; omega)
      have hq := hn1 3
      clear hn1
      (try simp only [nsl, Value.cells, unB] at st)
      (try clear hc); have hc := st.facts; (try simp only [nfl, nft, Nat.reduceAdd] at hc)
      go_enter Try.func76, Try.ntmps76
      go_wp2_with ((first
            | ((with_reducible refine wl_box ?_ (fun K hK => ?_)); rfl; refine owp_box (o := ⟨some 3, _, _, _, _, _⟩) rfl st ?_; apply Exists.intro; refine ⟨?_, ?_⟩; (focus (go_simp; try rfl)); (clear st; intro b3 w hb st; clear hb))
            | ((with_reducible refine wl_alloc ?_ (fun K hK => ?_)); rfl; refine owp_alloc (o := ⟨some 5, _, _, _, _, _⟩) rfl st ?_; apply Exists.intro; apply Exists.intro; refine ⟨?_, ?_⟩; (focus (first | (go_simp; done) | (go_simp; rfl))); (clear st; intro b5 w hb st; clear hb))
            | ((with_reducible refine wl_store ?_ (fun K hK => ?_)); rfl; refine owp_store rfl st ?_; apply Exists.intro; apply Exists.intro; refine ⟨?_, ?_, ?_⟩; (focus (go_simp; try rfl)); (focus (go_simp; try rfl)); (first | (with_reducible refine ⟨0, _, _, _, _, get0, rfl, rfl, ?_, ?_, ?_, ?_⟩) | (with_reducible refine ⟨1, _, _, _, _, get1, rfl, rfl, ?_, ?_, ?_, ?_⟩) | (with_reducible refine ⟨2, _, _, _, _, get2, rfl, rfl, ?_, ?_, ?_, ?_⟩) | (with_reducible refine ⟨3, _, _, _, _, get3, rfl, rfl, ?_, ?_, ?_, ?_⟩) | (with_reducible refine ⟨4, _, _, _, _, get4, rfl, rfl, ?_, ?_, ?_, ?_⟩) | (with_reducible refine ⟨5, _, _, _, _, get5, rfl, rfl, ?_, ?_, ?_, ?_⟩)); (kernel_rfl); (simp [Value.cells]); (rfl); (clear st; intro w st))); (try simp only [nsl, Value.cells, unB] at st); (try clear hc); have hc := st.facts; (try simp only [nfl, nft, Nat.reduceAdd] at hc))
      obtain ⟨fr', al', st', back⟩ := st.sub [0] (by decide) (by simp)
      (try simp only [nsl, Value.cells, unB] at st')
      refine (penNumber_c st' 3 (by decide) (by omega)).mono ?_
      clear st'
      rintro en w ⟨rfl, st'⟩
      replace st := back _ _ (by simp) st'
      clear back st'
      (try simp only [nsl, Value.cells, unB] at st)
      (try clear hc); have hc := st.facts; (try simp only [nfl, nft, Nat.reduceAdd] at hc)
      go_wp2_with ((first
            | ((with_reducible refine wl_box ?_ (fun K hK => ?_)); rfl; refine owp_box (o := ⟨some 3, _, _, _, _, _⟩) rfl st ?_; apply Exists.intro; refine ⟨?_, ?_⟩; (focus (go_simp; try rfl)); (clear st; intro b3 w hb st; clear hb))
            | ((with_reducible refine wl_alloc ?_ (fun K hK => ?_)); rfl; refine owp_alloc (o := ⟨some 5, _, _, _, _, _⟩) rfl st ?_; apply Exists.intro; apply Exists.intro; refine ⟨?_, ?_⟩; (focus (first | (go_simp; done) | (go_simp; rfl))); (clear st; intro b5 w hb st; clear hb))
            | ((with_reducible refine wl_store ?_ (fun K hK => ?_)); rfl; refine owp_store rfl st ?_; apply Exists.intro; apply Exists.intro; refine ⟨?_, ?_, ?_⟩; (focus (go_simp; try rfl)); (focus (go_simp; try rfl)); (first | (with_reducible refine ⟨0, _, _, _, _, get0, rfl, rfl, ?_, ?_, ?_, ?_⟩) | (with_reducible refine ⟨1, _, _, _, _, get1, rfl, rfl, ?_, ?_, ?_, ?_⟩) | (with_reducible refine ⟨2, _, _, _, _, get2, rfl, rfl, ?_, ?_, ?_, ?_⟩) | (with_reducible refine ⟨3, _, _, _, _, get3, rfl, rfl, ?_, ?_, ?_, ?_⟩) | (with_reducible refine ⟨4, _, _, _, _, get4, rfl, rfl, ?_, ?_, ?_, ?_⟩) | (with_reducible refine ⟨5, _, _, _, _, get5, rfl, rfl, ?_, ?_, ?_, ?_⟩)); (kernel_rfl); (simp [Value.cells]); (rfl); (clear st; intro w st))); (try simp only [nsl, Value.cells, unB] at st); (try clear hc); have hc := st.facts; (try simp only [nfl, nft, Nat.reduceAdd] at hc))
      obtain ⟨fr', al', st', back⟩ := st.sub [0] (by decide) (by simp)
      (try simp only [nsl, Value.cells, unB] at st')
      refine (penNumber_c st' n hkl (by simp only [List.length_append]; omega)).mono ?_
      clear st'
      rintro en w ⟨rfl, st'⟩
      replace st := back _ _ (by simp) st'
      clear back st'
      (try simp only [nsl, Value.cells, unB] at st)
      (try clear hc); have hc := st.facts; (try simp only [nfl, nft, Nat.reduceAdd] at hc)
      go_wp2_with ((first
            | ((with_reducible refine wl_box ?_ (fun K hK => ?_)); rfl; refine owp_box (o := ⟨some 3, _, _, _, _, _⟩) rfl st ?_; apply Exists.intro; refine ⟨?_, ?_⟩; (focus (go_simp; try rfl)); (clear st; intro b3 w hb st; clear hb))
            | ((with_reducible refine wl_alloc ?_ (fun K hK => ?_)); rfl; refine owp_alloc (o := ⟨some 5, _, _, _, _, _⟩) rfl st ?_; apply Exists.intro; apply Exists.intro; refine ⟨?_, ?_⟩; (focus (first | (go_simp; done) | (go_simp; rfl))); (clear st; intro b5 w hb st; clear hb))
            | ((with_reducible refine wl_store ?_ (fun K hK => ?_)); rfl; refine owp_store rfl st ?_; apply Exists.intro; apply Exists.intro; refine ⟨?_, ?_, ?_⟩; (focus (go_simp; try rfl)); (focus (go_simp; try rfl)); (first | (with_reducible refine ⟨0, _, _, _, _, get0, rfl, rfl, ?_, ?_, ?_, ?_⟩) | (with_reducible refine ⟨1, _, _, _, _, get1, rfl, rfl, ?_, ?_, ?_, ?_⟩) | (with_reducible refine ⟨2, _, _, _, _, get2, rfl, rfl, ?_, ?_, ?_, ?_⟩) | (with_reducible refine ⟨3, _, _, _, _, get3, rfl, rfl, ?_, ?_, ?_, ?_⟩) | (with_reducible refine ⟨4, _, _, _, _, get4, rfl, rfl, ?_, ?_, ?_, ?_⟩) | (with_reducible refine ⟨5, _, _, _, _, get5, rfl, rfl, ?_, ?_, ?_, ?_⟩)); (kernel_rfl); (simp [Value.cells]); (rfl); (clear st; intro w st))); (try simp only [nsl, Value.cells, unB] at st); (try clear hc); have hc := st.facts; (try simp only [nfl, nft, Nat.reduceAdd] at hc))
      go_loopg [32] n (fun q i wr => ∃ (j : Nat) (ys : List UInt8), j ≤ n ∧ q = n - j ∧ i = .int .i64 (j : Int) ∧ Hid (ys = (xs ++ numB 3 ++ numB n) ++ bytesL ((kids.take j).map Fm.strip)) ∧ Own fr al W [penI p ys, fmI (.mk 3 0 ([], []) a n c kids), blkI b3 [.int .i64 3, .int .i64 0, .string ⟨#[]⟩, .string ⟨#[]⟩, .slice a n c]] wr)
      case atStart => exact ⟨0, xs ++ numB 3 ++ numB n, by omega, by omega, rfl, Lib.hid (by simp [bytesL]), by simpa [List.append_assoc] using st⟩
      case round =>
        obtain ⟨j, ys, hj, rfl, rfl, HY, st'⟩ := hrel
        clear st hc
        have st := st'
        clear st'
        by_cases hjn : j < n
        · obtain ⟨b, off, ha, hcell⟩ := (st.fm (i := 1) get1).fl.fm (by omega)
          have hjl : j < kids.length := by have := HN.out; omega
          have hsn := map_snoc_strip kids j hjl
          have hle := nodesL_take (kids.map Fm.strip) (j + 1)
          rw [← List.map_take, hsn, nodesL_snoc] at hle
          have hbl := bytesL_take_len (kids.map Fm.strip) HWK.out j
          rw [← List.map_take] at hbl
          have hih := HI.out _ (List.getElem_mem hjl)
          have hwk := HWK.out _ (List.mem_map.2 ⟨_, List.getElem_mem hjl, rfl⟩)
          have hgt := List.getElem?_eq_getElem hjl
          replace st := st.fmKid (i := 1) get1 (List.getElem_mem hjl)
          have hpl := HPL.out
          have hss := HS.out
          have hyl : ys.length ≤ xs.length + 30 + 70 * nodesL ((kids.take j).map Fm.strip) := by rw [HY.out, List.length_append]; simp only [List.length_append] at hpl ⊢; omega
          generalize kids[j] = x at *
          have HC := Lib.hid (fun (fr al : Nat → Prop) (W : World) (st : Own fr al W [penI p ys, fmI x] W) => hih fr al W p ys st hwk (by omega))
          obtain ⟨sx, hsx⟩ : ∃ v, x.strip = v := ⟨_, rfl⟩
          have HY2 : Hid (ys ++ x.strip.bytes = (xs ++ numB 3 ++ numB n) ++ bytesL ((kids.take (j + 1)).map Fm.strip)) := Lib.hid (by rw [hsn, bytesL_snoc, HY.out, List.append_assoc])
          rw [hsx] at HC HY2
          clear hsx hsn hle hbl hih hwk hpl hss hyl hjl
          generalize sx.bytes = zs at *
          simp only [List.cons_append, List.nil_append] at st
          obtain ⟨fx, hfx⟩ : ∃ f, x = f := ⟨_, rfl⟩
          have hfx2 := hfx
          obtain ⟨op', k', ⟨o', d'⟩, a', n', c', kids'⟩ := x
          obtain ⟨r0, r1, r2, r3, r4⟩ := hcell j op' k' (o', d') a' n' c' kids' hgt
          have HV : Hid (fmV fx = .agg #[.int .i64 op', .int .i64 k', .string ⟨o'.toArray⟩, .string ⟨d'.toArray⟩, .slice a' n' c']) := Lib.hid (by rw [← hfx]; rfl)
          rw [hfx] at HC st
          clear hcell hgt hfx hfx2
          rw [HV.out] at HC
          subst ha
          unfold S at r2 r3
          simp only at r2 r3
          (try simp only [nsl, Value.cells, unB] at st)
          (try clear hc); have hc := st.facts; (try simp only [nfl, nft, Nat.reduceAdd] at hc)
          go_wp2_with ((first
                | ((with_reducible refine wl_box ?_ (fun K hK => ?_)); rfl; refine owp_box (o := ⟨some 3, _, _, _, _, _⟩) rfl st ?_; apply Exists.intro; refine ⟨?_, ?_⟩; (focus (go_simp; try rfl)); (clear st; intro b3 w hb st; clear hb))
                | ((with_reducible refine wl_alloc ?_ (fun K hK => ?_)); rfl; refine owp_alloc (o := ⟨some 5, _, _, _, _, _⟩) rfl st ?_; apply Exists.intro; apply Exists.intro; refine ⟨?_, ?_⟩; (focus (first | (go_simp; done) | (go_simp; rfl))); (clear st; intro b5 w hb st; clear hb))
                | ((with_reducible refine wl_store ?_ (fun K hK => ?_)); rfl; refine owp_store rfl st ?_; apply Exists.intro; apply Exists.intro; refine ⟨?_, ?_, ?_⟩; (focus (go_simp; try rfl)); (focus (go_simp; try rfl)); (first | (with_reducible refine ⟨0, _, _, _, _, get0, rfl, rfl, ?_, ?_, ?_, ?_⟩) | (with_reducible refine ⟨1, _, _, _, _, get1, rfl, rfl, ?_, ?_, ?_, ?_⟩) | (with_reducible refine ⟨2, _, _, _, _, get2, rfl, rfl, ?_, ?_, ?_, ?_⟩) | (with_reducible refine ⟨3, _, _, _, _, get3, rfl, rfl, ?_, ?_, ?_, ?_⟩) | (with_reducible refine ⟨4, _, _, _, _, get4, rfl, rfl, ?_, ?_, ?_, ?_⟩) | (with_reducible refine ⟨5, _, _, _, _, get5, rfl, rfl, ?_, ?_, ?_, ?_⟩)); (kernel_rfl); (simp [Value.cells]); (rfl); (clear st; intro w st))); (try simp only [nsl, Value.cells, unB] at st); (try clear hc); have hc := st.facts; (try simp only [nfl, nft, Nat.reduceAdd] at hc))
          clear r0 r1 r2 r3 r4
          obtain ⟨fr', al', st', back⟩ := st.sub [0, 3] (by decide) (by simp)
          (try simp only [nsl, Value.cells, unB] at st')
          refine (HC.out _ _ _ st').mono ?_
          clear st'
          rintro en w ⟨rfl, st'⟩
          replace st := back _ _ (by simp) st'
          clear back st'
          (try simp only [nsl, Value.cells, unB] at st)
          (try clear hc); have hc := st.facts; (try simp only [nfl, nft, Nat.reduceAdd] at hc)
          go_wp2_with ((first
                | ((with_reducible refine wl_box ?_ (fun K hK => ?_)); rfl; refine owp_box (o := ⟨some 3, _, _, _, _, _⟩) rfl st ?_; apply Exists.intro; refine ⟨?_, ?_⟩; (focus (go_simp; try rfl)); (clear st; intro b3 w hb st; clear hb))
                | ((with_reducible refine wl_alloc ?_ (fun K hK => ?_)); rfl; refine owp_alloc (o := ⟨some 5, _, _, _, _, _⟩) rfl st ?_; apply Exists.intro; apply Exists.intro; refine ⟨?_, ?_⟩; (focus (first | (go_simp; done) | (go_simp; rfl))); (clear st; intro b5 w hb st; clear hb))
                | ((with_reducible refine wl_store ?_ (fun K hK => ?_)); rfl; refine owp_store rfl st ?_; apply Exists.intro; apply Exists.intro; refine ⟨?_, ?_, ?_⟩; (focus (go_simp; try rfl)); (focus (go_simp; try rfl)); (first | (with_reducible refine ⟨0, _, _, _, _, get0, rfl, rfl, ?_, ?_, ?_, ?_⟩) | (with_reducible refine ⟨1, _, _, _, _, get1, rfl, rfl, ?_, ?_, ?_, ?_⟩) | (with_reducible refine ⟨2, _, _, _, _, get2, rfl, rfl, ?_, ?_, ?_, ?_⟩) | (with_reducible refine ⟨3, _, _, _, _, get3, rfl, rfl, ?_, ?_, ?_, ?_⟩) | (with_reducible refine ⟨4, _, _, _, _, get4, rfl, rfl, ?_, ?_, ?_, ?_⟩) | (with_reducible refine ⟨5, _, _, _, _, get5, rfl, rfl, ?_, ?_, ?_, ?_⟩)); (kernel_rfl); (simp [Value.cells]); (rfl); (clear st; intro w st))); (try simp only [nsl, Value.cells, unB] at st); (try clear hc); have hc := st.facts; (try simp only [nfl, nft, Nat.reduceAdd] at hc))
          have st' := st.keep [0, 1, 2] (by decide) (by simp)
          go_roundg (n - (j + 1))
          case measure => omega
          case rel => exact ⟨j + 1, _, by omega, by omega, by go_num, HY2, by simpa [pick] using st'⟩
        · obtain rfl : n = j := by omega
          have HE : Hid (ys = xs ++ (Fo.mk 3 0 ([], []) (kids.map Fm.strip)).bytes) := Lib.hid (by
            rw [HY.out, List.take_of_length_le (by have := HN.out; omega), Fo.bytes, List.length_map, ← HN.out]
            simp [List.append_assoc])
          (try simp only [nsl, Value.cells, unB] at st)
          (try clear hc); have hc := st.facts; (try simp only [nfl, nft, Nat.reduceAdd] at hc)
          go_wp2_with fail
          go_end0
          have st' := st.keep [0, 1] (by decide) (by simp)
          refine ⟨rfl, ?_⟩
          rw [← HE.out]
          simpa [pick] using st'
  · have hnq : ∀ m, (numB m).length ≤ 10 := fun m => numF_len 10 _
    have hkl : n < 9223372036854775808 := by omega
    obtain ⟨kq, rfl⟩ : ∃ q : Nat, k = q := ⟨k.toNat, by omega⟩
    have hqn : kq ≤ n := by omega
    have hql : kq < 9223372036854775808 := by omega
    have HPL : Hid ((xs ++ numB 4 ++ numB kq ++ numB n).length ≤ xs.length + 30) := Lib.hid (by have := hnq 4; have := hnq kq; have := hnq n; simp only [List.length_append]; omega)
    have hq4 := hnq 4
    have hqq := hnq kq
    unfold fmV S
    simp only
    clear h1 hnq hk0 hkn
    (try simp only [nsl, Value.cells, unB] at st)
    (try clear hc); have hc := st.facts; (try simp only [nfl, nft, Nat.reduceAdd] at hc)
    go_enter Try.func76, Try.ntmps76
    go_wp2_with ((first
          | ((with_reducible refine wl_box ?_ (fun K hK => ?_)); rfl; refine owp_box (o := ⟨some 3, _, _, _, _, _⟩) rfl st ?_; apply Exists.intro; refine ⟨?_, ?_⟩; (focus (go_simp; try rfl)); (clear st; intro b3 w hb st; clear hb))
          | ((with_reducible refine wl_alloc ?_ (fun K hK => ?_)); rfl; refine owp_alloc (o := ⟨some 5, _, _, _, _, _⟩) rfl st ?_; apply Exists.intro; apply Exists.intro; refine ⟨?_, ?_⟩; (focus (first | (go_simp; done) | (go_simp; rfl))); (clear st; intro b5 w hb st; clear hb))
          | ((with_reducible refine wl_store ?_ (fun K hK => ?_)); rfl; refine owp_store rfl st ?_; apply Exists.intro; apply Exists.intro; refine ⟨?_, ?_, ?_⟩; (focus (go_simp; try rfl)); (focus (go_simp; try rfl)); (first | (with_reducible refine ⟨0, _, _, _, _, get0, rfl, rfl, ?_, ?_, ?_, ?_⟩) | (with_reducible refine ⟨1, _, _, _, _, get1, rfl, rfl, ?_, ?_, ?_, ?_⟩) | (with_reducible refine ⟨2, _, _, _, _, get2, rfl, rfl, ?_, ?_, ?_, ?_⟩) | (with_reducible refine ⟨3, _, _, _, _, get3, rfl, rfl, ?_, ?_, ?_, ?_⟩) | (with_reducible refine ⟨4, _, _, _, _, get4, rfl, rfl, ?_, ?_, ?_, ?_⟩) | (with_reducible refine ⟨5, _, _, _, _, get5, rfl, rfl, ?_, ?_, ?_, ?_⟩)); (kernel_rfl); (simp [Value.cells]); (rfl); (clear st; intro w st))); (try simp only [nsl, Value.cells, unB] at st); (try clear hc); have hc := st.facts; (try simp only [nfl, nft, Nat.reduceAdd] at hc))
    obtain ⟨fr', al', st', back⟩ := st.sub [0] (by decide) (by simp)
    (try simp only [nsl, Value.cells, unB] at st')
    refine (penNumber_c st' 4 (by decide) (by omega)).mono ?_
    clear st'
    rintro en w ⟨rfl, st'⟩
    replace st := back _ _ (by simp) st'
    clear back st'
    (try simp only [nsl, Value.cells, unB] at st)
    (try clear hc); have hc := st.facts; (try simp only [nfl, nft, Nat.reduceAdd] at hc)
    go_wp2_with ((first
          | ((with_reducible refine wl_box ?_ (fun K hK => ?_)); rfl; refine owp_box (o := ⟨some 3, _, _, _, _, _⟩) rfl st ?_; apply Exists.intro; refine ⟨?_, ?_⟩; (focus (go_simp; try rfl)); (clear st; intro b3 w hb st; clear hb))
          | ((with_reducible refine wl_alloc ?_ (fun K hK => ?_)); rfl; refine owp_alloc (o := ⟨some 5, _, _, _, _, _⟩) rfl st ?_; apply Exists.intro; apply Exists.intro; refine ⟨?_, ?_⟩; (focus (first | (go_simp; done) | (go_simp; rfl))); (clear st; intro b5 w hb st; clear hb))
          | ((with_reducible refine wl_store ?_ (fun K hK => ?_)); rfl; refine owp_store rfl st ?_; apply Exists.intro; apply Exists.intro; refine ⟨?_, ?_, ?_⟩; (focus (go_simp; try rfl)); (focus (go_simp; try rfl)); (first | (with_reducible refine ⟨0, _, _, _, _, get0, rfl, rfl, ?_, ?_, ?_, ?_⟩) | (with_reducible refine ⟨1, _, _, _, _, get1, rfl, rfl, ?_, ?_, ?_, ?_⟩) | (with_reducible refine ⟨2, _, _, _, _, get2, rfl, rfl, ?_, ?_, ?_, ?_⟩) | (with_reducible refine ⟨3, _, _, _, _, get3, rfl, rfl, ?_, ?_, ?_, ?_⟩) | (with_reducible refine ⟨4, _, _, _, _, get4, rfl, rfl, ?_, ?_, ?_, ?_⟩) | (with_reducible refine ⟨5, _, _, _, _, get5, rfl, rfl, ?_, ?_, ?_, ?_⟩)); (kernel_rfl); (simp [Value.cells]); (rfl); (clear st; intro w st))); (try simp only [nsl, Value.cells, unB] at st); (try clear hc); have hc := st.facts; (try simp only [nfl, nft, Nat.reduceAdd] at hc))
    obtain ⟨fr', al', st', back⟩ := st.sub [0] (by decide) (by simp)
    (try simp only [nsl, Value.cells, unB] at st')
    refine (penNumber_c st' kq hql (by simp only [List.length_append]; omega)).mono ?_
    clear st'
    rintro en w ⟨rfl, st'⟩
    replace st := back _ _ (by simp) st'
    clear back st'
    (try simp only [nsl, Value.cells, unB] at st)
    (try clear hc); have hc := st.facts; (try simp only [nfl, nft, Nat.reduceAdd] at hc)
    go_wp2_with ((first
          | ((with_reducible refine wl_box ?_ (fun K hK => ?_)); rfl; refine owp_box (o := ⟨some 3, _, _, _, _, _⟩) rfl st ?_; apply Exists.intro; refine ⟨?_, ?_⟩; (focus (go_simp; try rfl)); (clear st; intro b3 w hb st; clear hb))
          | ((with_reducible refine wl_alloc ?_ (fun K hK => ?_)); rfl; refine owp_alloc (o := ⟨some 5, _, _, _, _, _⟩) rfl st ?_; apply Exists.intro; apply Exists.intro; refine ⟨?_, ?_⟩; (focus (first | (go_simp; done) | (go_simp; rfl))); (clear st; intro b5 w hb st; clear hb))
          | ((with_reducible refine wl_store ?_ (fun K hK => ?_)); rfl; refine owp_store rfl st ?_; apply Exists.intro; apply Exists.intro; refine ⟨?_, ?_, ?_⟩; (focus (go_simp; try rfl)); (focus (go_simp; try rfl)); (first | (with_reducible refine ⟨0, _, _, _, _, get0, rfl, rfl, ?_, ?_, ?_, ?_⟩) | (with_reducible refine ⟨1, _, _, _, _, get1, rfl, rfl, ?_, ?_, ?_, ?_⟩) | (with_reducible refine ⟨2, _, _, _, _, get2, rfl, rfl, ?_, ?_, ?_, ?_⟩) | (with_reducible refine ⟨3, _, _, _, _, get3, rfl, rfl, ?_, ?_, ?_, ?_⟩) | (with_reducible refine ⟨4, _, _, _, _, get4, rfl, rfl, ?_, ?_, ?_, ?_⟩) | (with_reducible refine ⟨5, _, _, _, _, get5, rfl, rfl, ?_, ?_, ?_, ?_⟩)); (kernel_rfl); (simp [Value.cells]); (rfl); (clear st; intro w st))); (try simp only [nsl, Value.cells, unB] at st); (try clear hc); have hc := st.facts; (try simp only [nfl, nft, Nat.reduceAdd] at hc))
    obtain ⟨fr', al', st', back⟩ := st.sub [0] (by decide) (by simp)
    (try simp only [nsl, Value.cells, unB] at st')
    refine (penNumber_c st' n hkl (by simp only [List.length_append]; omega)).mono ?_
    clear st'
    rintro en w ⟨rfl, st'⟩
    replace st := back _ _ (by simp) st'
    clear back st'
    (try simp only [nsl, Value.cells, unB] at st)
    (try clear hc); have hc := st.facts; (try simp only [nfl, nft, Nat.reduceAdd] at hc)
    go_wp2_with ((first
          | ((with_reducible refine wl_box ?_ (fun K hK => ?_)); rfl; refine owp_box (o := ⟨some 3, _, _, _, _, _⟩) rfl st ?_; apply Exists.intro; refine ⟨?_, ?_⟩; (focus (go_simp; try rfl)); (clear st; intro b3 w hb st; clear hb))
          | ((with_reducible refine wl_alloc ?_ (fun K hK => ?_)); rfl; refine owp_alloc (o := ⟨some 5, _, _, _, _, _⟩) rfl st ?_; apply Exists.intro; apply Exists.intro; refine ⟨?_, ?_⟩; (focus (first | (go_simp; done) | (go_simp; rfl))); (clear st; intro b5 w hb st; clear hb))
          | ((with_reducible refine wl_store ?_ (fun K hK => ?_)); rfl; refine owp_store rfl st ?_; apply Exists.intro; apply Exists.intro; refine ⟨?_, ?_, ?_⟩; (focus (go_simp; try rfl)); (focus (go_simp; try rfl)); (first | (with_reducible refine ⟨0, _, _, _, _, get0, rfl, rfl, ?_, ?_, ?_, ?_⟩) | (with_reducible refine ⟨1, _, _, _, _, get1, rfl, rfl, ?_, ?_, ?_, ?_⟩) | (with_reducible refine ⟨2, _, _, _, _, get2, rfl, rfl, ?_, ?_, ?_, ?_⟩) | (with_reducible refine ⟨3, _, _, _, _, get3, rfl, rfl, ?_, ?_, ?_, ?_⟩) | (with_reducible refine ⟨4, _, _, _, _, get4, rfl, rfl, ?_, ?_, ?_, ?_⟩) | (with_reducible refine ⟨5, _, _, _, _, get5, rfl, rfl, ?_, ?_, ?_, ?_⟩)); (kernel_rfl); (simp [Value.cells]); (rfl); (clear st; intro w st))); (try simp only [nsl, Value.cells, unB] at st); (try clear hc); have hc := st.facts; (try simp only [nfl, nft, Nat.reduceAdd] at hc))
    go_loopg [32] n (fun q i wr => ∃ (j : Nat) (ys : List UInt8), j ≤ n ∧ q = n - j ∧ i = .int .i64 (j : Int) ∧ Hid (ys = (xs ++ numB 4 ++ numB kq ++ numB n) ++ bytesL ((kids.take j).map Fm.strip)) ∧ Own fr al W [penI p ys, fmI (.mk 4 (kq : Int) ([], []) a n c kids), blkI b3 [.int .i64 4, .int .i64 (kq : Int), .string ⟨#[]⟩, .string ⟨#[]⟩, .slice a n c]] wr)
    case atStart => exact ⟨0, xs ++ numB 4 ++ numB kq ++ numB n, by omega, by omega, rfl, Lib.hid (by simp [bytesL]), by simpa [List.append_assoc] using st⟩
    case round =>
      obtain ⟨j, ys, hj, rfl, rfl, HY, st'⟩ := hrel
      clear st hc
      have st := st'
      clear st'
      by_cases hjn : j < n
      · obtain ⟨b, off, ha, hcell⟩ := (st.fm (i := 1) get1).fl.fm (by omega)
        have hjl : j < kids.length := by have := HN.out; omega
        have hsn := map_snoc_strip kids j hjl
        have hle := nodesL_take (kids.map Fm.strip) (j + 1)
        rw [← List.map_take, hsn, nodesL_snoc] at hle
        have hbl := bytesL_take_len (kids.map Fm.strip) HWK.out j
        rw [← List.map_take] at hbl
        have hih := HI.out _ (List.getElem_mem hjl)
        have hwk := HWK.out _ (List.mem_map.2 ⟨_, List.getElem_mem hjl, rfl⟩)
        have hgt := List.getElem?_eq_getElem hjl
        replace st := st.fmKid (i := 1) get1 (List.getElem_mem hjl)
        have hpl := HPL.out
        have hss := HS.out
        have hyl : ys.length ≤ xs.length + 30 + 70 * nodesL ((kids.take j).map Fm.strip) := by rw [HY.out, List.length_append]; simp only [List.length_append] at hpl ⊢; omega
        generalize kids[j] = x at *
        have HC := Lib.hid (fun (fr al : Nat → Prop) (W : World) (st : Own fr al W [penI p ys, fmI x] W) => hih fr al W p ys st hwk (by omega))
        obtain ⟨sx, hsx⟩ : ∃ v, x.strip = v := ⟨_, rfl⟩
        have HY2 : Hid (ys ++ x.strip.bytes = (xs ++ numB 4 ++ numB kq ++ numB n) ++ bytesL ((kids.take (j + 1)).map Fm.strip)) := Lib.hid (by rw [hsn, bytesL_snoc, HY.out, List.append_assoc])
        rw [hsx] at HC HY2
        clear hsx hsn hle hbl hih hwk hpl hss hyl hjl
        generalize sx.bytes = zs at *
        simp only [List.cons_append, List.nil_append] at st
        obtain ⟨fx, hfx⟩ : ∃ f, x = f := ⟨_, rfl⟩
        have hfx2 := hfx
        obtain ⟨op', k', ⟨o', d'⟩, a', n', c', kids'⟩ := x
        obtain ⟨r0, r1, r2, r3, r4⟩ := hcell j op' k' (o', d') a' n' c' kids' hgt
        have HV : Hid (fmV fx = .agg #[.int .i64 op', .int .i64 k', .string ⟨o'.toArray⟩, .string ⟨d'.toArray⟩, .slice a' n' c']) := Lib.hid (by rw [← hfx]; rfl)
        rw [hfx] at HC st
        clear hcell hgt hfx hfx2
        rw [HV.out] at HC
        subst ha
        unfold S at r2 r3
        simp only at r2 r3
        (try simp only [nsl, Value.cells, unB] at st)
        (try clear hc); have hc := st.facts; (try simp only [nfl, nft, Nat.reduceAdd] at hc)
        go_wp2_with ((first
              | ((with_reducible refine wl_box ?_ (fun K hK => ?_)); rfl; refine owp_box (o := ⟨some 3, _, _, _, _, _⟩) rfl st ?_; apply Exists.intro; refine ⟨?_, ?_⟩; (focus (go_simp; try rfl)); (clear st; intro b3 w hb st; clear hb))
              | ((with_reducible refine wl_alloc ?_ (fun K hK => ?_)); rfl; refine owp_alloc (o := ⟨some 5, _, _, _, _, _⟩) rfl st ?_; apply Exists.intro; apply Exists.intro; refine ⟨?_, ?_⟩; (focus (first | (go_simp; done) | (go_simp; rfl))); (clear st; intro b5 w hb st; clear hb))
              | ((with_reducible refine wl_store ?_ (fun K hK => ?_)); rfl; refine owp_store rfl st ?_; apply Exists.intro; apply Exists.intro; refine ⟨?_, ?_, ?_⟩; (focus (go_simp; try rfl)); (focus (go_simp; try rfl)); (first | (with_reducible refine ⟨0, _, _, _, _, get0, rfl, rfl, ?_, ?_, ?_, ?_⟩) | (with_reducible refine ⟨1, _, _, _, _, get1, rfl, rfl, ?_, ?_, ?_, ?_⟩) | (with_reducible refine ⟨2, _, _, _, _, get2, rfl, rfl, ?_, ?_, ?_, ?_⟩) | (with_reducible refine ⟨3, _, _, _, _, get3, rfl, rfl, ?_, ?_, ?_, ?_⟩) | (with_reducible refine ⟨4, _, _, _, _, get4, rfl, rfl, ?_, ?_, ?_, ?_⟩) | (with_reducible refine ⟨5, _, _, _, _, get5, rfl, rfl, ?_, ?_, ?_, ?_⟩)); (kernel_rfl); (simp [Value.cells]); (rfl); (clear st; intro w st))); (try simp only [nsl, Value.cells, unB] at st); (try clear hc); have hc := st.facts; (try simp only [nfl, nft, Nat.reduceAdd] at hc))
        clear r0 r1 r2 r3 r4
        obtain ⟨fr', al', st', back⟩ := st.sub [0, 3] (by decide) (by simp)
        (try simp only [nsl, Value.cells, unB] at st')
        refine (HC.out _ _ _ st').mono ?_
        clear st'
        rintro en w ⟨rfl, st'⟩
        replace st := back _ _ (by simp) st'
        clear back st'
        (try simp only [nsl, Value.cells, unB] at st)
        (try clear hc); have hc := st.facts; (try simp only [nfl, nft, Nat.reduceAdd] at hc)
        go_wp2_with ((first
              | ((with_reducible refine wl_box ?_ (fun K hK => ?_)); rfl; refine owp_box (o := ⟨some 3, _, _, _, _, _⟩) rfl st ?_; apply Exists.intro; refine ⟨?_, ?_⟩; (focus (go_simp; try rfl)); (clear st; intro b3 w hb st; clear hb))
              | ((with_reducible refine wl_alloc ?_ (fun K hK => ?_)); rfl; refine owp_alloc (o := ⟨some 5, _, _, _, _, _⟩) rfl st ?_; apply Exists.intro; apply Exists.intro; refine ⟨?_, ?_⟩; (focus (first | (go_simp; done) | (go_simp; rfl))); (clear st; intro b5 w hb st; clear hb))
              | ((with_reducible refine wl_store ?_ (fun K hK => ?_)); rfl; refine owp_store rfl st ?_; apply Exists.intro; apply Exists.intro; refine ⟨?_, ?_, ?_⟩; (focus (go_simp; try rfl)); (focus (go_simp; try rfl)); (first | (with_reducible refine ⟨0, _, _, _, _, get0, rfl, rfl, ?_, ?_, ?_, ?_⟩) | (with_reducible refine ⟨1, _, _, _, _, get1, rfl, rfl, ?_, ?_, ?_, ?_⟩) | (with_reducible refine ⟨2, _, _, _, _, get2, rfl, rfl, ?_, ?_, ?_, ?_⟩) | (with_reducible refine ⟨3, _, _, _, _, get3, rfl, rfl, ?_, ?_, ?_, ?_⟩) | (with_reducible refine ⟨4, _, _, _, _, get4, rfl, rfl, ?_, ?_, ?_, ?_⟩) | (with_reducible refine ⟨5, _, _, _, _, get5, rfl, rfl, ?_, ?_, ?_, ?_⟩)); (kernel_rfl); (simp [Value.cells]); (rfl); (clear st; intro w st))); (try simp only [nsl, Value.cells, unB] at st); (try clear hc); have hc := st.facts; (try simp only [nfl, nft, Nat.reduceAdd] at hc))
        have st' := st.keep [0, 1, 2] (by decide) (by simp)
        go_roundg (n - (j + 1))
        case measure => omega
        case rel => exact ⟨j + 1, _, by omega, by omega, by go_num, HY2, by simpa [pick] using st'⟩
      · obtain rfl : n = j := by omega
        have HE : Hid (ys = xs ++ (Fo.mk 4 (kq : Int) ([], []) (kids.map Fm.strip)).bytes) := Lib.hid (by
          rw [HY.out, List.take_of_length_le (by have := HN.out; omega), Fo.bytes, List.length_map, ← HN.out]
          simp [List.append_assoc])
        (try simp only [nsl, Value.cells, unB] at st)
        (try clear hc); have hc := st.facts; (try simp only [nfl, nft, Nat.reduceAdd] at hc)
        go_wp2_with fail
        go_end0
        have st' := st.keep [0, 1] (by decide) (by simp)
        refine ⟨rfl, ?_⟩
        rw [← HE.out]
        simpa [pick] using st'
set_option maxRecDepth 100000 in
set_option maxHeartbeats 1000000 in
theorem fmPut_no (f : Fm) (p : Option Addr) (W : World) (h : FmOk W f) (hs : f.strip.nodes ≤ 1000000000) (hl : FoL 100000 f.strip) (hn : p = none ∨ foR f.strip = false) :
    Calls Try.prog 40 #[.pointer p, fmV f] W fun e w' => e = .returned (.bool false) ∧ Ext W w' := by
  have HR := Lib.hid (fun W' (hx : Ext W W') => fmRight_any f W' (h.ext hx) hs hl)
  obtain ⟨op, k, ⟨o, d⟩, a, n, c, kids⟩ := f
  generalize foR (Fm.mk op k (o, d) a n c kids).strip = rv at *
  clear h hs hl
  have st := Own.startOld W
  unfold fmV S at HR ⊢
  simp only at HR ⊢
  cases p with
  | none =>
    clear hn
    (try simp only [nsl, Value.cells, unB] at st)
    (try clear hc); have hc := st.facts; (try simp only [nfl, nft, Nat.reduceAdd] at hc)
    go_enter Try.func40, Try.ntmps40
    go_wp2_with ((((with_reducible refine wl_box ?_ (fun K hK => ?_)); rfl; refine owp_box (o := ⟨some 3, _, _, _, _, _⟩) rfl st ?_; apply Exists.intro; refine ⟨?_, ?_⟩; (focus (go_simp; try rfl)); (clear st; intro b3 w hb st; clear hb))); (try simp only [nsl, Value.cells, unB] at st); (try clear hc); have hc := st.facts; (try simp only [nfl, nft, Nat.reduceAdd] at hc))
    go_ret
    exact ⟨rfl, st.ext0⟩
  | some p =>
    obtain rfl : rv = false := by rcases hn with q | q; cases q; exact q
    clear hn
    (try simp only [nsl, Value.cells, unB] at st)
    (try clear hc); have hc := st.facts; (try simp only [nfl, nft, Nat.reduceAdd] at hc)
    go_enter Try.func40, Try.ntmps40
    go_wp2_with ((((with_reducible refine wl_box ?_ (fun K hK => ?_)); rfl; refine owp_box (o := ⟨some 3, _, _, _, _, _⟩) rfl st ?_; apply Exists.intro; refine ⟨?_, ?_⟩; (focus (go_simp; try rfl)); (clear st; intro b3 w hb st; clear hb))); (try simp only [nsl, Value.cells, unB] at st); (try clear hc); have hc := st.facts; (try simp only [nfl, nft, Nat.reduceAdd] at hc))
    refine (HR.out _ st.ext0).mono ?_
    rintro en w ⟨rfl, hx⟩
    replace st := st.ext hx
    clear hx
    (try clear hc); have hc := st.facts; (try simp only [nfl, nft, Nat.reduceAdd] at hc)
    go_wp2_with ((((with_reducible refine wl_box ?_ (fun K hK => ?_)); rfl; refine owp_box (o := ⟨some 3, _, _, _, _, _⟩) rfl st ?_; apply Exists.intro; refine ⟨?_, ?_⟩; (focus (go_simp; try rfl)); (clear st; intro b3 w hb st; clear hb))); (try simp only [nsl, Value.cells, unB] at st); (try clear hc); have hc := st.facts; (try simp only [nfl, nft, Nat.reduceAdd] at hc))
    go_ret
    exact ⟨rfl, st.ext0⟩
set_option maxRecDepth 100000 in
set_option maxHeartbeats 1000000 in
theorem fmPut_yes {fr al : Nat → Prop} {W : World} {p : Nat} {xs : List UInt8} (f : Fm) (st : Own fr al W [penI p xs, fmI f] W) (hr : foR f.strip = true) (hl : FoL 100000 f.strip) (hx : xs.length ≤ 900000) :
    Calls Try.prog 40 #[.pointer (some ⟨p, 0, none⟩), fmV f] W fun e w' => e = .returned (.bool true) ∧ Own fr al W [penI p (xs ++ f.strip.bytes), fmI f] w' := by
  have hp : f.strip.nodes ≤ 64 ∧ f.strip.well = true := by
    unfold foR at hr
    rw [Bool.and_eq_true, Bool.and_eq_true, decide_eq_true_eq] at hr
    exact ⟨hr.1.1, hr.2⟩
  have HR := Lib.hid (fun W' (h : FmOk W' f) => hr ▸ fmRight_any f W' h (by omega) hl)
  have HP := Lib.hid (fun (fr al : Nat → Prop) (W : World) (st : Own fr al W [penI p xs, fmI f] W) => fmPut0_c f fr al W p xs st hp.2 (by omega))
  obtain ⟨fx, hfx⟩ : ∃ g, f = g := ⟨_, rfl⟩
  obtain ⟨op, k, ⟨o, d⟩, a, n, c, kids⟩ := f
  have HV : Hid (fmV fx = .agg #[.int .i64 op, .int .i64 k, .string ⟨o.toArray⟩, .string ⟨d.toArray⟩, .slice a n c]) := Lib.hid (by rw [← hfx]; rfl)
  rw [hfx] at HR HP st ⊢
  rw [HV.out] at HR HP ⊢
  generalize fx.strip.bytes = u at *
  clear hfx hr hl hp
  (try simp only [nsl, Value.cells, unB] at st)
  (try clear hc); have hc := st.facts; (try simp only [nfl, nft, Nat.reduceAdd] at hc)
  go_enter Try.func40, Try.ntmps40
  go_wp2_with ((((with_reducible refine wl_box ?_ (fun K hK => ?_)); rfl; refine owp_box (o := ⟨some 3, _, _, _, _, _⟩) rfl st ?_; apply Exists.intro; refine ⟨?_, ?_⟩; (focus (go_simp; try rfl)); (clear st; intro b3 w hb st; clear hb))); (try simp only [nsl, Value.cells, unB] at st); (try clear hc); have hc := st.facts; (try simp only [nfl, nft, Nat.reduceAdd] at hc))
  refine (HR.out _ (st.fm (i := 1) get1)).mono ?_
  rintro en w ⟨rfl, hx⟩
  replace st := st.ext hx
  clear hx
  (try clear hc); have hc := st.facts; (try simp only [nfl, nft, Nat.reduceAdd] at hc)
  go_wp2_with ((((with_reducible refine wl_box ?_ (fun K hK => ?_)); rfl; refine owp_box (o := ⟨some 3, _, _, _, _, _⟩) rfl st ?_; apply Exists.intro; refine ⟨?_, ?_⟩; (focus (go_simp; try rfl)); (clear st; intro b3 w hb st; clear hb))); (try simp only [nsl, Value.cells, unB] at st); (try clear hc); have hc := st.facts; (try simp only [nfl, nft, Nat.reduceAdd] at hc))
  obtain ⟨fr', al', st', back⟩ := st.sub [0, 1] (by decide) (by simp)
  (try simp only [nsl, Value.cells, unB] at st')
  refine (HP.out _ _ _ st').mono ?_
  clear st'
  rintro en w ⟨rfl, st'⟩
  replace st := back _ _ (by simp) st'
  clear back st'
  (try simp only [nsl, Value.cells, unB] at st)
  (try clear hc); have hc := st.facts; (try simp only [nfl, nft, Nat.reduceAdd] at hc)
  go_wp2_with ((((with_reducible refine wl_box ?_ (fun K hK => ?_)); rfl; refine owp_box (o := ⟨some 3, _, _, _, _, _⟩) rfl st ?_; apply Exists.intro; refine ⟨?_, ?_⟩; (focus (go_simp; try rfl)); (clear st; intro b3 w hb st; clear hb))); (try simp only [nsl, Value.cells, unB] at st); (try clear hc); have hc := st.facts; (try simp only [nfl, nft, Nat.reduceAdd] at hc))
  go_ret
  have st' := st.keep [0, 1] (by decide) (by simp)
  exact ⟨rfl, by simpa [pick] using st'⟩
theorem wrF_len (f : Fo) : (wrF f).length ≤ 5000 := by
  unfold wrF
  split
  · rename_i h
    unfold foR at h
    rw [Bool.and_eq_true, Bool.and_eq_true, decide_eq_true_eq] at h
    have := bytes_len f h.2
    omega
  · simp
set_option maxRecDepth 100000 in
set_option maxHeartbeats 1000000 in
theorem fmWritten_f (f : Fm) (W : World) (h : FmOk W f) (hs : f.strip.nodes ≤ 1000000000) (hl : FoL 100000 f.strip) :
    Calls Try.prog 83 #[fmV f] W fun e w' => ∃ a c, e = .returned (.slice a (wrF f.strip).length c) ∧ Own (fun _ => False) (fun _ => True) W [oldI W, byI a (wrF f.strip).length (wrF f.strip)] w' := by
  have st := Own.startOld W
  have hwl := wrF_len f.strip
  have HV0 : Hid (wrF f.strip = if foR f.strip = true then f.strip.bytes else []) := Lib.hid rfl
  replace st := st.addOldFm (i := 0) get0 h
  simp only [List.cons_append, List.nil_append] at st
  have HNO := Lib.hid (fun p W' (hx : Ext W W') hr => fmPut_no f (some ⟨p, 0, none⟩) W' (h.ext hx) hs hl (.inr hr))
  have HYE := Lib.hid (fun (fr al : Nat → Prop) (W : World) (p : Nat) (st : Own fr al W [penI p [], fmI f] W) hr => fmPut_yes f st hr hl (by simp))
  generalize wrF f.strip = u at *
  obtain ⟨fx, hfx⟩ : ∃ g, f = g := ⟨_, rfl⟩
  obtain ⟨op, k, ⟨o, d⟩, a, n, c, kids⟩ := f
  have HV : Hid (fmV fx = .agg #[.int .i64 op, .int .i64 k, .string ⟨o.toArray⟩, .string ⟨d.toArray⟩, .slice a n c]) := Lib.hid (by rw [← hfx]; rfl)
  rw [hfx] at HNO HYE HV0 st ⊢
  rw [HV.out] at HNO HYE ⊢
  clear hfx h hs hl
  generalize fx.strip.bytes = bs at *
  cases hr : foR fx.strip with
  | false =>
    rw [hr] at HV0
    obtain rfl : u = [] := HV0.out.trans (if_neg (by decide))
    (try simp only [nsl, Value.cells, unB] at st)
    (try clear hc); have hc := st.facts; (try simp only [nfl, nft, Nat.reduceAdd] at hc)
    go_enter Try.func83, Try.ntmps83
    go_wp2_with ((first
          | ((with_reducible refine wl_box ?_ (fun K hK => ?_)); rfl; refine owp_box (o := ⟨some 1, _, _, _, _, _⟩) rfl st ?_; apply Exists.intro; refine ⟨?_, ?_⟩; (focus (go_simp; try rfl)); (clear st; intro b1 w hb st; clear hb))
          | ((with_reducible refine wl_box ?_ (fun K hK => ?_)); rfl; refine owp_box (o := ⟨some 5, _, _, _, _, _⟩) rfl st ?_; apply Exists.intro; refine ⟨?_, ?_⟩; (focus (go_simp; try rfl)); (clear st; intro b5 w hb st; clear hb))); (try simp only [nsl, Value.cells, unB] at st); (try clear hc); have hc := st.facts; (try simp only [nfl, nft, Nat.reduceAdd] at hc))
    refine (HNO.out _ _ st.ext0 hr).mono ?_
    rintro en w ⟨rfl, hx⟩
    replace st := st.ext hx
    clear hx
    (try clear hc); have hc := st.facts; (try simp only [nfl, nft, Nat.reduceAdd] at hc)
    clear hr
    replace st := st.newPen (i := 3) get3
    simp only [List.set] at st
    (try simp only [nsl, Value.cells, unB] at st)
    (try clear hc); have hc := st.facts; (try simp only [nfl, nft, Nat.reduceAdd] at hc)
    go_wp2_with ((first
          | ((with_reducible refine wl_box ?_ (fun K hK => ?_)); rfl; refine owp_box (o := ⟨some 1, _, _, _, _, _⟩) rfl st ?_; apply Exists.intro; refine ⟨?_, ?_⟩; (focus (go_simp; try rfl)); (clear st; intro b1 w hb st; clear hb))
          | ((with_reducible refine wl_box ?_ (fun K hK => ?_)); rfl; refine owp_box (o := ⟨some 5, _, _, _, _, _⟩) rfl st ?_; apply Exists.intro; refine ⟨?_, ?_⟩; (focus (go_simp; try rfl)); (clear st; intro b5 w hb st; clear hb))); (try simp only [nsl, Value.cells, unB] at st); (try clear hc); have hc := st.facts; (try simp only [nfl, nft, Nat.reduceAdd] at hc))
    obtain ⟨fr', al', st', back⟩ := st.sub [3] (by decide) (by simp)
    (try simp only [nsl, Value.cells, unB] at st')
    refine (penBytes_c st' (by simp)).mono ?_
    clear st'
    rintro en w ⟨pa, pc, rfl, hpc, st'⟩
    replace st := back _ _ (by simp) st'
    clear back st'
    (try simp only [nsl, Value.cells, unB] at st)
    (try clear hc); have hc := st.facts; (try simp only [nfl, nft, Nat.reduceAdd] at hc)
    go_wp2_with fail
    go_ret
    have st' := st.keep [0, 4] (by decide) (by simp)
    exact ⟨_, _, rfl, by simpa [pick] using st'⟩
  | true =>
    rw [hr] at HV0
    obtain rfl : u = bs := HV0.out.trans (if_pos rfl)
    (try simp only [nsl, Value.cells, unB] at st)
    (try clear hc); have hc := st.facts; (try simp only [nfl, nft, Nat.reduceAdd] at hc)
    go_enter Try.func83, Try.ntmps83
    go_wp2_with ((first
          | ((with_reducible refine wl_box ?_ (fun K hK => ?_)); rfl; refine owp_box (o := ⟨some 1, _, _, _, _, _⟩) rfl st ?_; apply Exists.intro; refine ⟨?_, ?_⟩; (focus (go_simp; try rfl)); (clear st; intro b1 w hb st; clear hb))
          | ((with_reducible refine wl_box ?_ (fun K hK => ?_)); rfl; refine owp_box (o := ⟨some 5, _, _, _, _, _⟩) rfl st ?_; apply Exists.intro; refine ⟨?_, ?_⟩; (focus (go_simp; try rfl)); (clear st; intro b5 w hb st; clear hb))); (try simp only [nsl, Value.cells, unB] at st); (try clear hc); have hc := st.facts; (try simp only [nfl, nft, Nat.reduceAdd] at hc))
    replace st := st.newPen (i := 3) get3
    simp only [List.set] at st
    (try simp only [nsl, Value.cells, unB] at st)
    (try clear hc); have hc := st.facts; (try simp only [nfl, nft, Nat.reduceAdd] at hc)
    obtain ⟨fr', al', st', back⟩ := st.sub [3, 1] (by decide) (by simp)
    (try simp only [nsl, Value.cells, unB] at st')
    refine (HYE.out _ _ _ _ st' hr).mono ?_
    clear st'
    rintro en w ⟨rfl, st'⟩
    replace st := back _ _ (by simp) st'
    clear back st'
    (try simp only [nsl, Value.cells, unB] at st)
    (try clear hc); have hc := st.facts; (try simp only [nfl, nft, Nat.reduceAdd] at hc)
    clear hr
    (try simp only [List.nil_append] at st)
    go_wp2_with ((first
          | ((with_reducible refine wl_box ?_ (fun K hK => ?_)); rfl; refine owp_box (o := ⟨some 1, _, _, _, _, _⟩) rfl st ?_; apply Exists.intro; refine ⟨?_, ?_⟩; (focus (go_simp; try rfl)); (clear st; intro b1 w hb st; clear hb))
          | ((with_reducible refine wl_box ?_ (fun K hK => ?_)); rfl; refine owp_box (o := ⟨some 5, _, _, _, _, _⟩) rfl st ?_; apply Exists.intro; refine ⟨?_, ?_⟩; (focus (go_simp; try rfl)); (clear st; intro b5 w hb st; clear hb))); (try simp only [nsl, Value.cells, unB] at st); (try clear hc); have hc := st.facts; (try simp only [nfl, nft, Nat.reduceAdd] at hc))
    obtain ⟨fr', al', st', back⟩ := st.sub [3] (by decide) (by simp)
    (try simp only [nsl, Value.cells, unB] at st')
    refine (penBytes_c st' (by omega)).mono ?_
    clear st'
    rintro en w ⟨pa, pc, rfl, hpc, st'⟩
    replace st := back _ _ (by simp) st'
    clear back st'
    (try simp only [nsl, Value.cells, unB] at st)
    (try clear hc); have hc := st.facts; (try simp only [nfl, nft, Nat.reduceAdd] at hc)
    go_wp2_with fail
    go_ret
    have st' := st.keep [0, 4] (by decide) (by simp)
    exact ⟨_, _, rfl, by simpa [pick] using st'⟩
end Go.Proofs.Ythjaopojlhdjpaa

namespace Go.Proofs.Ythjaopojlhdjpaa
set_option linter.unusedSimpArgs false
set_option linter.unusedVariables false
open Go Go.RowKit
@[go_sem] theorem roleEq_self (x : Role) : roleEq x x = true := by rw [roleEq_eq]; simp
end Go.Proofs.Ythjaopojlhdjpaa

namespace Go.Proofs.Ythjaopojlhdjpaa.Rg4
set_option linter.unusedSimpArgs false
set_option linter.unusedVariables false
open Go Go.Proofs.Ythjaopojlhdjpaa.Rg
section
variable (P : Program) (ops : Array Oper) (T : Array Nat) (Rel : World → World → Prop) (ld : Nat → Bool) (Cl : World → Prop) (kd : Nat → Kd) (Q : Exit → Act → World → Prop)
/-- The walk up to a fork. -/
def wp5 (E : World → Facts → Act → Prop) : List (Nat × Oper) → World → Facts → Act → Prop
  | [], w0, F, a => E w0 F a
  | (k, o) :: rest, w0, F, a =>
    if Region.wanted o (yielded ops a.tmps) = true then
      match kd k with
      | .none => ∃ c, (∀ w, (ld k = true → Rel w0 w) → Cl w → stillAt P o a w c) ∧ wp5 E rest w0 F (a.put o.dst c)
      | .some (.some S) => (∀ w, Rel w0 w → Cl w → Pre ops T F k w → relAt P o a w (fun v w' => Rel w w' ∧ Cl w' ∧ S v w')) ∧
          ∀ v, (∃ w, Rel w0 w ∧ Cl w ∧ S v w) → wp5 E rest w0 (upd F k (S v)) (a.put o.dst v)
      | .some .none => ∀ w, Rel w0 w → Cl w → All F w → o.wp P a w (fun a' w' => Cl w' ∧ wp5 E rest w' none a') Q ∨ (o.asks P a w ∧ LetsOut Q)
    else wp5 E rest w0 F (a.put o.dst undef)
end
section
variable {P : Program} {ops : Array Oper} {T : Array Nat} {Rel : World → World → Prop} {ld : Nat → Bool} {Cl : World → Prop} {kd : Nat → Kd} {Q : Exit → Act → World → Prop}
section steps
variable {E : World → Facts → Act → Prop} {w0 : World} {o : Oper} {rest : List (Nat × Oper)} {k : Nat} {F : Facts} {a : Act}
end steps
end
section
open Go.RowKit
variable {fr al : Nat → Prop} {w0 w : World} {L : List It}
variable {P : Program} {ops : Array Oper} {T : Array Nat} {ld : Nat → Bool} {Cl : World → Prop} {kd : Nat → Kd} {Q : Exit → Act → World → Prop}
end
attribute [irreducible] wp5
end Go.Proofs.Ythjaopojlhdjpaa.Rg4

namespace Go.Proofs.Ythjaopojlhdjpaa.Rg4
set_option linter.unusedSimpArgs false
set_option linter.unusedVariables false
open Go Go.Proofs.Ythjaopojlhdjpaa.Rg
section
variable (P : Program) (ops : Array Oper) (T : Array Nat) (Rel : World → World → Prop) (ld : Nat → Bool) (Cl : World → Prop) (kd : Nat → Kd) (Q : Exit → Act → World → Prop)
end
section
variable {P : Program} {ops : Array Oper} {T : Array Nat} {Rel : World → World → Prop} {ld : Nat → Bool} {Cl : World → Prop} {kd : Nat → Kd} {Q : Exit → Act → World → Prop}
end
end Go.Proofs.Ythjaopojlhdjpaa.Rg4

namespace Go.Proofs.Ythjaopojlhdjpaa
set_option linter.unusedSimpArgs false
set_option linter.unusedVariables false
open Go Go.RowKit
theorem fmWritten_any (f : Fm) (W : World) (h : FmOk W f) (hs : f.strip.nodes ≤ 1000000000) (hl : FoL 100000 f.strip) :
    Calls Try.prog 83 #[fmV f] W fun e w' => ∃ a c, e = .returned (.slice a (wrF f.strip).length c) ∧ By w' a (wrF f.strip).length (wrF f.strip) ∧ Ext W w' :=
  (fmWritten_f f W h hs hl).mono fun _ _ ⟨a, c, h1, st⟩ => ⟨a, c, h1, st.by (i := 1) get1, st.ext0⟩
set_option maxRecDepth 100000 in
set_option maxHeartbeats 2000000 in
theorem fmCompare_any (f g : Fm) (W : World) (hf : FmOk W f) (hg : FmOk W g) (hs : f.strip.nodes ≤ 1000000000) (hs2 : g.strip.nodes ≤ 1000000000) (hl : FoL 100000 f.strip) (hl2 : FoL 100000 g.strip) :
    Calls Try.prog 47 #[fmV f, fmV g] W fun e w' => e = .returned (.int .i64 (cmp2 (wrF f.strip) (wrF g.strip))) ∧ Ext W w' := by
  have HF := Lib.hid (fun W' (hx : Ext W W') => fmWritten_any f W' (hf.ext hx) hs hl)
  have HG := Lib.hid (fun W' (hx : Ext W W') => fmWritten_any g W' (hg.ext hx) hs2 hl2)
  obtain ⟨op, k, ⟨o, d⟩, a, n, c, kids⟩ := f
  obtain ⟨op2, k2, ⟨o2, d2⟩, a2, n2, c2, kids2⟩ := g
  generalize wrF (Fm.mk op k (o, d) a n c kids).strip = u at *
  generalize wrF (Fm.mk op2 k2 (o2, d2) a2 n2 c2 kids2).strip = u2 at *
  obtain ⟨m, hm⟩ : ∃ m, u.length = m := ⟨_, rfl⟩
  obtain ⟨m2, hm2⟩ : ∃ m, u2.length = m := ⟨_, rfl⟩
  rw [hm] at HF
  rw [hm2] at HG
  clear hf hg hs hs2 hl hl2 hm hm2
  have st := Own.startOld W
  unfold fmV S at HF HG ⊢
  simp only at HF HG ⊢
  (try simp only [nsl, Value.cells, unB] at st)
  (try clear hc); have hc := st.facts; (try simp only [nfl, nft, Nat.reduceAdd] at hc)
  go_enter Try.func47, Try.ntmps47
  go_wp2_with ((first
        | ((with_reducible refine wl_box ?_ (fun K hK => ?_)); rfl; refine owp_box (o := ⟨some 2, _, _, _, _, _⟩) rfl st ?_; apply Exists.intro; refine ⟨?_, ?_⟩; (focus (go_simp; try rfl)); (clear st; intro b2 w hb st; clear hb))
        | ((with_reducible refine wl_box ?_ (fun K hK => ?_)); rfl; refine owp_box (o := ⟨some 3, _, _, _, _, _⟩) rfl st ?_; apply Exists.intro; refine ⟨?_, ?_⟩; (focus (go_simp; try rfl)); (clear st; intro b3 w hb st; clear hb))); (try simp only [nsl, Value.cells, unB] at st); (try clear hc); have hc := st.facts; (try simp only [nfl, nft, Nat.reduceAdd] at hc))
  refine Rg4.wp_region4_eq #[0, 1, 0, 7, 15, 31] [1, 3, 4] [0] (fun W' => Blk W' b3 [.int .i64 op2, .int .i64 k2, .string ⟨o2.toArray⟩, .string ⟨d2.toArray⟩, .slice a2 n2 c2]) [0, 2, 1, 3, 4, 5] (by kernel_rfl) (by kernel_rfl) (by kernel_rfl) (by kernel_rfl) (show Rg4.PB _ by repeat (first | with_reducible exact Rg4.pb_body | with_reducible exact Rg4.pb_bodyD rfl | with_reducible refine Rg4.pb_then ?_ | with_reducible refine Rg4.pb_inBlock ?_ | with_reducible refine Rg4.pb_noGoto ?_)) (st.drew.blk (i := 2) get2) ?_
  replace st := st.drew
  change Rg4.wp4 _ _ _ _ _ _ _ _ _ (World.drew _) _ _
  generalize World.drew _ = w at st ⊢
  (try clear hc); have hc := st.facts; (try simp only [nfl, nft, Nat.reduceAdd] at hc)
  (refine Rg4.w4_read (Rg4.want_none rfl) rfl rfl ?_; apply Exists.intro; refine ⟨fun w' hw' hcl' => ?_, ?_⟩; focus (subst hw'; (focus (first | (go_simp; done) | (go_simp; first | rfl | (rw [if_neg] <;> first | rfl | omega) | (rw [if_pos] <;> first | rfl | omega))))); (try simp only [Rg4.nrm]))
  (refine Rg4.w4_cl (Rg4.want_none rfl) rfl ?_; apply Exists.intro; refine ⟨fun w' hcl => ?_, ?_⟩; (focus (have q0 := Blk.cell hcl 0; have q1 := Blk.cell hcl 1; have q2 := Blk.cell hcl 2; have q3 := Blk.cell hcl 3; have q4 := Blk.cell hcl 4; (try simp at q0 q1 q2 q3 q4); (focus (first | (go_simp; done) | (go_simp; first | rfl | (rw [if_neg] <;> first | rfl | omega) | (rw [if_pos] <;> first | rfl | omega)))))); (try simp only [Rg4.nrm]))
  refine Rg4.w4_bar (Rg4.want_none rfl) rfl (fun w' hw' hcl _ K hK => ?_)
  subst hw'
  go_wp2_with fail
  refine (HF.out _ st.ext0).mono ?_
  rintro en w ⟨a1, c1, rfl, hb1, hx⟩
  replace st := st.ext hx
  clear hx
  have HB1 := Lib.hid hb1
  clear hb1
  (try simp only [nsl, Value.cells, unB] at st)
  (try clear hc); have hc := st.facts; (try simp only [nfl, nft, Nat.reduceAdd] at hc)
  refine hK _ _ ⟨st.blk (i := 2) get2, ?_⟩
  clear hK
  (try simp only [Rg4.nrm])

  have st1 := st
  have HX1 : ∀ w', Own (fun _ => False) (fun _ => True) W [oldI W, blkI b2 [.int .i64 op, .int .i64 k, .string ⟨o.toArray⟩, .string ⟨d.toArray⟩, .slice a n c], blkI b3 [.int .i64 op2, .int .i64 k2, .string ⟨o2.toArray⟩, .string ⟨d2.toArray⟩, .slice a2 n2 c2]] w' → True := fun _ _ => trivial
  clear st1 HX1
  refine Rg4.w4_bar (Rg4.want_none rfl) rfl (fun w' hw' hcl _ K hK => ?_)
  subst hw'
  go_wp2_with fail
  refine (HG.out _ st.ext0).mono ?_
  rintro en w ⟨a3, c3, rfl, hb2, hx⟩
  have HB3 := Lib.hid (HB1.out.ext hx)
  replace st := st.ext hx
  clear hx HB1
  have HB2 := Lib.hid hb2
  clear hb2
  (try simp only [nsl, Value.cells, unB] at st)
  (try clear hc); have hc := st.facts; (try simp only [nfl, nft, Nat.reduceAdd] at hc)
  refine hK _ _ ⟨st.blk (i := 2) get2, ?_⟩
  clear hK
  (try simp only [Rg4.nrm])

  refine Rg4.w4_bar (Rg4.want_none rfl) rfl (fun w' hw' hcl _ K hK => ?_)
  subst hw'
  go_wp2_with fail
  refine (bytesCompare_any HB3.out HB2.out).mono ?_
  rintro en w ⟨rfl, hx⟩
  replace st := st.ext hx
  clear hx
  (try simp only [nsl, Value.cells, unB] at st)
  (try clear hc); have hc := st.facts; (try simp only [nfl, nft, Nat.reduceAdd] at hc)
  refine hK _ _ ⟨st.blk (i := 2) get2, ?_⟩
  clear hK
  (try simp only [Rg4.nrm])
  (refine Rg4.w4_any (Rg4.want_none rfl) rfl ?_; apply Exists.intro; refine ⟨fun w' => ?_, ?_⟩; (focus (first | (go_simp; done) | (go_simp; first | rfl | (rw [if_neg] <;> first | rfl | omega) | (rw [if_pos] <;> first | rfl | omega)))); (try simp only [Rg4.nrm]))
  refine Rg4.w4_nil (fun w' hw' hcl' _ => ?_); subst hw'; clear hcl'
  go_wp2_with fail
  go_ret
  exact ⟨rfl, st.ext0⟩
section
variable {fr al : Nat → Prop} {w0 w : World} {L : List It}
theorem Own.fmsMore (st : Own fr al w0 L w) {i j : Nat} {l : List Fm} {f : Fm} (hi : L[i]? = some (fmsI l)) (hj : L[j]? = some (fmI f)) : Own fr al w0 (L ++ [fmsI (l ++ [f])]) w :=
  st.share2 hi hj fun e s e2 s2 h1 h2 g hg => by
    rcases List.mem_append.1 hg with q | q
    · exact FmIn.to (h1 g q) (fun _ => .inl)
    · rw [List.mem_singleton.1 q]; exact FmIn.to h2 (fun _ => .inr)
theorem Own.mkFm (st : Own fr al w0 L w) {i j n : Nat} {a : Option Addr} {l : List Fm} (hi : L[i]? = some (flI a n l)) (hj : L[j]? = some (fmsI l)) (op k : Int) (r : Role) (c : Nat) (hc : n ≤ c ∧ c ≤ maxLen) : Own fr al w0 (L ++ [fmI (.mk op k r a n c l)]) w :=
  st.share2 hi hj fun e s e2 s2 h1 h2 => FmIn.mk hc h1.1 (fun h0 ad e => .inl (h1.2 h0 ad e)) fun x hx => FmIn.to (h2 x hx) (fun _ => .inr)
theorem Own.noFms (st : Own fr al w0 L w) : Own fr al w0 (L ++ [fmsI []]) w := st.bare (fun f hf => by simp at hf)
end
def zF : List Value := [.int .i64 0, .int .i64 0, .string ⟨#[]⟩, .string ⟨#[]⟩, .slice none 0 0]
theorem fmInfo : ∃ i, Try.prog.info? 26 = some i ∧ i.zero = some (.agg zF.toArray) ∧ i.size = 5 ∧ i.bytes = 72 := info_parts (by kernel_rfl)
end Go.Proofs.Ythjaopojlhdjpaa

namespace Go.Proofs.Ythjaopojlhdjpaa
set_option linter.unusedSimpArgs false
set_option linter.unusedVariables false
open Go Go.RowKit
end Go.Proofs.Ythjaopojlhdjpaa

namespace Go.Proofs.Ythjaopojlhdjpaa
set_option linter.unusedSimpArgs false
set_option linter.unusedVariables false
open Go Go.RowKit
theorem foR_parts {f : Fo} (h : foR f = true) : f.nodes ≤ 64 ∧ f.deep ≤ 6 ∧ f.well = true := by
  unfold foR at h
  rw [Bool.and_eq_true, Bool.and_eq_true, decide_eq_true_eq, decide_eq_true_eq] at h
  exact ⟨h.1.1, h.1.2, h.2⟩
end Go.Proofs.Ythjaopojlhdjpaa

namespace Go.Proofs.Ythjaopojlhdjpaa
set_option linter.unusedSimpArgs false
set_option linter.unusedVariables false
open Go Go.RowKit
def Fo.op : Fo → Int
  | .mk o _ _ _ => o
def Fo.kids : Fo → List Fo
  | .mk _ _ _ l => l
def emF (f : Fo) (op : Int) : Bool := decide (f.op = op) && decide (f.kids.length = 0)
def flF (op : Int) (l : List Fo) : List Fo := l.flatMap fun x => if x.op = op then x.kids else [x]
/-- Of neighbours that are the same the first one stays. -/
def cmG {α : Type} (p : α → α → Bool) (y : α) : List α → List α
  | [] => []
  | x :: l => if p x y then cmG p y l else x :: cmG p x l
def cmB {α : Type} (p : α → α → Bool) : List α → List α
  | [] => []
  | x :: l => x :: cmG p x l
mutual
def foE : Fo → Fo → Bool
  | .mk o k r l, .mk o' k' r' l' => decide (o = o') && decide (k = k') && decide (r = r') && foEL l l'
def foEL : List Fo → List Fo → Bool
  | [], [] => true
  | [], _ :: _ => false
  | _ :: _, [] => false
  | x :: l, y :: m => foE x y && foEL l m
end
theorem foE_iff (x : Fo) : ∀ y, foE x y = true ↔ x = y := by
  refine Fo.ind (P := fun x => ∀ y, foE x y = true ↔ x = y) (fun op k r kids ih => ?_) x
  intro y
  obtain ⟨o', k', r', l'⟩ := y
  have hl : ∀ m : List Fo, foEL kids m = true ↔ kids = m := by
    clear op k r o' k' r' l' x
    induction kids with
    | nil => intro m; cases m <;> simp [foEL]
    | cons z l ihl =>
      intro m
      cases m with
      | nil => simp [foEL]
      | cons u m =>
        rw [foEL, Bool.and_eq_true, ih z (by simp) u, ihl (fun q hq => ih q (by simp [hq])) m]
        simp
  rw [foE, Bool.and_eq_true, Bool.and_eq_true, Bool.and_eq_true, hl, decide_eq_true_eq, decide_eq_true_eq, decide_eq_true_eq]
  simp only [Fo.mk.injEq]
  constructor
  · rintro ⟨⟨⟨h1, h2⟩, h3⟩, h4⟩; exact ⟨h1, h2, h3, h4⟩
  · rintro ⟨h1, h2, h3, h4⟩; exact ⟨⟨⟨h1, h2⟩, h3⟩, h4⟩
def cmF (l : List Fo) : List Fo := cmB foE l
def one1 (op : Int) : List Fo → Fo
  | [x] => x
  | l => .mk op 0 ([], []) l
def joF (op : Int) (l : List Fo) : Fo :=
  if (flF op l).any (fun x => emF x (5 - op)) then .mk (5 - op) 0 ([], []) [] else one1 op (cmF (sSort wrF (flF op l)))
def atK (k : Int) (l : List Fo) : Int := k - ((l.filter fun x => emF x 2).length : Nat)
def atL (l : List Fo) : List Fo := l.filter fun x => !emF x 2 && !emF x 3
def atE (k : Int) (m : List Fo) : Fo :=
  if k ≤ 0 then .mk 2 0 ([], []) [] else if (m.length : Int) < k then .mk 3 0 ([], []) [] else if k = (m.length : Int) then joF 2 m else if k = 1 then joF 3 m else .mk 4 k ([], []) (sSort wrF m)
def atF (k : Int) (l : List Fo) : Fo := atE (atK k l) (atL l)
mutual
def Fo.sh : Fo → Fo
  | .mk op k r kids => if op = 1 then .mk op k r kids else if op = 4 then atF k (shL kids) else joF op (shL kids)
def shL : List Fo → List Fo
  | [] => []
  | x :: l => x.sh :: shL l
end
theorem shL_eq : ∀ l : List Fo, shL l = l.map Fo.sh
  | [] => rfl
  | x :: l => by rw [shL, shL_eq l]; rfl
def ofE (f : Fo) : Int := if foR f = true then (if foR f.sh = true then 0 else 12) else 11
def ofF (f : Fo) : Fo := if ofE f = 0 then f.sh else .mk 0 0 ([], []) []
theorem cmG_sub {α : Type} (p : α → α → Bool) : ∀ (l : List α) (y : α), (cmG p y l).Sublist l
  | [], _ => List.Sublist.refl _
  | x :: l, y => by
    rw [cmG]
    split
    · exact (cmG_sub p l y).cons x
    · exact (cmG_sub p l x).cons_cons x
theorem cmB_sub {α : Type} (p : α → α → Bool) : ∀ l : List α, (cmB p l).Sublist l
  | [] => List.Sublist.refl _
  | x :: l => (cmG_sub p l x).cons_cons x
theorem nodesL_sub {l m : List Fo} (h : l.Sublist m) : nodesL l ≤ nodesL m := by
  induction h with
  | slnil => exact Nat.le_refl _
  | cons x _ ih => rw [nodesL]; omega
  | cons_cons x _ ih => rw [nodesL, nodesL]; omega
theorem nodesL_perm {l m : List Fo} (h : l.Perm m) : nodesL l = nodesL m := by
  induction h with
  | nil => rfl
  | cons x _ ih => rw [nodesL, nodesL, ih]
  | swap x y l => rw [nodesL, nodesL, nodesL, nodesL]; omega
  | trans _ _ h1 h2 => rw [h1, h2]
theorem nodesL_app : ∀ (l m : List Fo), nodesL (l ++ m) = nodesL l + nodesL m
  | [], m => by simp [nodesL]
  | x :: l, m => by rw [List.cons_append, nodesL, nodesL, nodesL_app l m]; omega
theorem flF_nodes (op : Int) : ∀ l : List Fo, nodesL (flF op l) ≤ nodesL l
  | [] => Nat.le_refl _
  | x :: l => by
    have h := flF_nodes op l
    have e : flF op (x :: l) = (if x.op = op then x.kids else [x]) ++ flF op l := rfl
    rw [e, nodesL_app, nodesL]
    have h2 : nodesL (if x.op = op then x.kids else [x]) ≤ x.nodes := by
      split
      · cases x; rw [Fo.nodes, Fo.kids]; omega
      · rw [nodesL, nodesL]; omega
    omega
theorem cmF_nodes (l : List Fo) : nodesL (cmF (sSort wrF l)) ≤ nodesL l := by
  rw [← nodesL_perm (sSort_sp (key := wrF) l).perm]
  exact nodesL_sub (cmB_sub _ _)
theorem one1_nodes (op : Int) : ∀ l : List Fo, (one1 op l).nodes ≤ 1 + nodesL l
  | [] => by simp [one1, Fo.nodes, nodesL]
  | [x] => by simp [one1, nodesL]
  | x :: y :: l => by rw [one1, Fo.nodes]; omega; simp
theorem joF_nodes (op : Int) (l : List Fo) : (joF op l).nodes ≤ 1 + nodesL l := by
  unfold joF
  split
  · rw [Fo.nodes, nodesL]; omega
  · have h1 := one1_nodes op (cmF (sSort wrF (flF op l)))
    have h2 := cmF_nodes (flF op l)
    have h3 := flF_nodes op l
    omega
theorem atF_nodes (k : Int) (l : List Fo) : (atF k l).nodes ≤ 1 + nodesL l := by
  have hm : nodesL (atL l) ≤ nodesL l := nodesL_sub List.filter_sublist
  unfold atF atE
  split
  · rw [Fo.nodes, nodesL]; omega
  · split
    · rw [Fo.nodes, nodesL]; omega
    · split
      · have := joF_nodes 2 (atL l); omega
      · split
        · have := joF_nodes 3 (atL l); omega
        · rw [Fo.nodes, nodesL_perm (sSort_sp (key := wrF) (atL l)).perm]; omega
theorem sh_nodes (f : Fo) : f.sh.nodes ≤ f.nodes := by
  refine Fo.ind (P := fun f => f.sh.nodes ≤ f.nodes) (fun op k r kids ih => ?_) f
  have hk : nodesL (shL kids) ≤ nodesL kids := by
    clear op k r
    induction kids with
    | nil => simp [shL, nodesL]
    | cons x l ihl =>
      have h1 := ih x (by simp)
      have h2 := ihl fun y hy => ih y (by simp [hy])
      rw [shL, nodesL, nodesL]; omega
  rw [Fo.sh]
  split
  · exact Nat.le_refl _
  · rw [show (Fo.mk op k r kids).nodes = 1 + nodesL kids by rw [Fo.nodes]]
    split
    · have := atF_nodes k (shL kids); omega
    · have := joF_nodes op (shL kids); omega
-- lengths of texts
theorem flF_L {b : Nat} {op : Int} {l : List Fo} (h : ∀ x ∈ l, FoL b x) : ∀ x ∈ flF op l, FoL b x := fun x hx => by
  obtain ⟨y, hy, hx2⟩ := List.mem_flatMap.1 hx
  split at hx2
  · have := h y hy
    cases y
    exact this.kids x hx2
  · rw [List.mem_singleton.1 hx2]; exact h y hy
theorem cmF_mem {l : List Fo} {x : Fo} (h : x ∈ cmF (sSort wrF l)) : x ∈ l := (sSort_sp (key := wrF) l).mem.1 ((cmB_sub _ _).subset h)
theorem mk_L {b : Nat} {op k : Int} {l : List Fo} (h : ∀ x ∈ l, FoL b x) : FoL b (.mk op k ([], []) l) := .mk (Nat.zero_le _) (Nat.zero_le _) h
theorem one1_L {b : Nat} {op : Int} : ∀ {l : List Fo}, (∀ x ∈ l, FoL b x) → FoL b (one1 op l)
  | [], h => mk_L h
  | [x], h => h x (by simp)
  | x :: y :: l, h => mk_L h
theorem joF_L {b : Nat} {op : Int} {l : List Fo} (h : ∀ x ∈ l, FoL b x) : FoL b (joF op l) := by
  unfold joF
  split
  · exact mk_L (by simp)
  · exact one1_L fun x hx => flF_L h x (cmF_mem hx)
theorem atF_L {b : Nat} {k : Int} {l : List Fo} (h : ∀ x ∈ l, FoL b x) : FoL b (atF k l) := by
  have hm : ∀ x ∈ atL l, FoL b x := fun x hx => h x (List.mem_filter.1 hx).1
  unfold atF atE
  split
  · exact mk_L (by simp)
  · split
    · exact mk_L (by simp)
    · split
      · exact joF_L hm
      · split
        · exact joF_L hm
        · exact mk_L fun x hx => hm x ((sSort_sp (key := wrF) (atL l)).mem.1 hx)
theorem shL_mem {l : List Fo} {x : Fo} (h : x ∈ shL l) : ∃ y ∈ l, y.sh = x := by rw [shL_eq] at h; exact List.mem_map.1 h
theorem sh_L {b : Nat} {f : Fo} (h : FoL b f) : FoL b f.sh := by
  induction h with
  | @mk op k r kids h1 h2 hk ih =>
    have hs : ∀ x ∈ shL kids, FoL b x := fun x hx => by obtain ⟨y, hy, rfl⟩ := shL_mem hx; exact ih y hy
    rw [Fo.sh]
    split
    · exact .mk h1 h2 hk
    · split
      · exact atF_L hs
      · exact joF_L hs
-- truth
section
variable (is : Role → Bool)
end
-- normal forms are their own
inductive NF : Fo → Prop
  | atom {k : Int} {r : Role} {l : List Fo} : NF (.mk 1 k r l)
  | join {op : Int} {l : List Fo} (ho : op = 2 ∨ op = 3) (hk : ∀ x ∈ l, NF x) (h1 : ∀ x ∈ l, x.op ≠ op) (h2 : ∀ x ∈ l, emF x (5 - op) = false) (h3 : Srt wrF l) (h4 : cmF l = l) (h5 : l.length ≠ 1) : NF (.mk op 0 ([], []) l)
  | atl {k : Int} {l : List Fo} (hk : ∀ x ∈ l, NF x) (h0 : 2 ≤ k) (h1 : k < (l.length : Int)) (h2 : ∀ x ∈ l, emF x 2 = false ∧ emF x 3 = false) (h3 : Srt wrF l) : NF (.mk 4 k ([], []) l)
theorem flF_id {op : Int} {l : List Fo} (h : ∀ x ∈ l, x.op ≠ op) : flF op l = l := by
  unfold flF
  induction l with
  | nil => rfl
  | cons x l ih => rw [List.flatMap_cons, if_neg (h x (by simp)), ih fun y hy => h y (by simp [hy])]; rfl
theorem one1_id {op : Int} {l : List Fo} (h : l.length ≠ 1) : one1 op l = .mk op 0 ([], []) l := by
  match l, h with
  | [], _ => rfl
  | [x], h => exact (h rfl).elim
  | x :: y :: l, _ => rfl
theorem NF.sh {f : Fo} (h : NF f) : f.sh = f := by
  induction h with
  | atom => rw [Fo.sh, if_pos rfl]
  | @join op l ho hk h1 h2 h3 h4 h5 ih =>
    have e : shL l = l := by rw [shL_eq]; exact (List.map_congr_left ih).trans (List.map_id _)
    rw [Fo.sh, if_neg (by omega), if_neg (by omega), e]
    unfold joF
    rw [flF_id h1, if_neg (by
      rw [Bool.not_eq_true, List.any_eq_false]
      exact fun x hx => by rw [h2 x hx]; simp), ← sSort_is (SP.refl _) h3, h4, one1_id h5]
  | @atl k l hk h0 h1 h2 h3 ih =>
    have e : shL l = l := by rw [shL_eq]; exact (List.map_congr_left ih).trans (List.map_id _)
    have e2 : atK k l = k := by
      unfold atK
      rw [List.filter_eq_nil_iff.2 fun x hx => by rw [(h2 x hx).1]; simp]
      simp
    have e3 : atL l = l := by
      unfold atL
      rw [List.filter_eq_self]
      exact fun x hx => by rw [(h2 x hx).1, (h2 x hx).2]; rfl
    rw [Fo.sh, if_neg (by decide), if_pos rfl, e]
    unfold atF
    rw [e2, e3]
    unfold atE
    rw [if_neg (by omega), if_neg (by omega), if_neg (by omega), if_neg (by omega), ← sSort_is (SP.refl _) h3]
end Go.Proofs.Ythjaopojlhdjpaa

namespace Go.Proofs.Ythjaopojlhdjpaa
set_option linter.unusedSimpArgs false
set_option linter.unusedVariables false
open Go Go.RowKit
set_option maxRecDepth 100000 in
set_option maxHeartbeats 2000000 in
theorem refNodes_any (f : Fm) : ∀ (W : World), FmOk W f → f.strip.nodes ≤ 1000000000 →
    Calls Try.prog 86 #[fmV f] W fun e w' => e = .returned (.int .i64 (f.strip.nodes : Int)) ∧ Ext W w' := by
  induction f using Fm.ind
  rename_i op k r a n c kids ih
  intro W hok hs
  obtain ⟨o, d⟩ := r
  rw [strip_mk] at *
  have HN : Hid (n = kids.length) := Lib.hid hok.fl.1
  have HOK := Lib.hid hok
  have HI := Lib.hid ih
  rw [Fo.nodes] at *
  have HS : Hid (1 + nodesL (kids.map Fm.strip) ≤ 1000000000) := Lib.hid hs
  have hn : n ≤ 1000000000 := by have := nodesL_len (kids.map Fm.strip); rw [List.length_map] at this; have := hok.fl.1; omega
  clear hok ih hs
  have st := Own.startOld W
  unfold fmV S
  simp only
  (try simp only [nsl, Value.cells, unB] at st)
  (try clear hc); have hc := st.facts; (try simp only [nfl, nft, Nat.reduceAdd] at hc)
  go_enter Try.func86, Try.ntmps86
  go_wp2_with ((first
        | ((with_reducible refine wl_box ?_ (fun K hK => ?_)); rfl; refine owp_box (o := ⟨some 1, _, _, _, _, _⟩) rfl st ?_; apply Exists.intro; refine ⟨?_, ?_⟩; (focus (go_simp; try rfl)); (clear st; intro b1 w hb st; clear hb))
        | ((with_reducible refine wl_alloc ?_ (fun K hK => ?_)); rfl; refine owp_alloc (o := ⟨some 5, _, _, _, _, _⟩) rfl st ?_; apply Exists.intro; apply Exists.intro; refine ⟨?_, ?_⟩; (focus (first | (go_simp; done) | (go_simp; rfl))); (clear st; intro b5 w hb st; clear hb))
        | ((with_reducible refine wl_store ?_ (fun K hK => ?_)); rfl; refine owp_store rfl st ?_; apply Exists.intro; apply Exists.intro; refine ⟨?_, ?_, ?_⟩; (focus (go_simp; try rfl)); (focus (go_simp; try rfl)); (first | (with_reducible refine ⟨0, _, _, _, _, get0, rfl, rfl, ?_, ?_, ?_, ?_⟩) | (with_reducible refine ⟨1, _, _, _, _, get1, rfl, rfl, ?_, ?_, ?_, ?_⟩) | (with_reducible refine ⟨2, _, _, _, _, get2, rfl, rfl, ?_, ?_, ?_, ?_⟩) | (with_reducible refine ⟨3, _, _, _, _, get3, rfl, rfl, ?_, ?_, ?_, ?_⟩)); (kernel_rfl); (simp [Value.cells]); (rfl); (clear st; intro w st))); (try simp only [nsl, Value.cells, unB] at st); (try clear hc); have hc := st.facts; (try simp only [nfl, nft, Nat.reduceAdd] at hc))
  go_loopg [3, 9] n (fun q s i wr => ∃ (j g : Nat), j ≤ n ∧ q = n - j ∧ s = .int .i64 (g : Int) ∧ i = .int .i64 (j : Int) ∧ g ≤ 1000000000 ∧ Hid (g = 1 + nodesL ((kids.take j).map Fm.strip)) ∧ Own (fun _ => False) (fun _ => True) W [oldI W, blkI b1 [.int .i64 op, .int .i64 k, .string ⟨o.toArray⟩, .string ⟨d.toArray⟩, .slice a n c]] wr)
  case atStart => exact ⟨0, 1, by omega, by omega, rfl, rfl, by omega, Lib.hid (by simp [nodesL]), st⟩
  case round =>
    obtain ⟨j, g, hj, rfl, rfl, rfl, hg, HG, st'⟩ := hrel
    clear st hc
    have st := st'
    clear st'
    by_cases hjn : j < n
    · obtain ⟨b, off, ha, hcell⟩ := (st.oldFl (i := 0) get0 HOK.out.fl).fm (by omega)
      have hjl : j < kids.length := by have := HN.out; omega
      have hsn := map_snoc_strip kids j hjl
      have hle := nodesL_take (kids.map Fm.strip) (j + 1)
      rw [← List.map_take, hsn, nodesL_snoc] at hle
      have hsv := HS.out
      have hok := HOK.out.kids _ (List.getElem_mem hjl)
      have hih := HI.out _ (List.getElem_mem hjl)
      have hgt := List.getElem?_eq_getElem hjl
      generalize kids[j] = x at *
      obtain ⟨m, hm⟩ : ∃ v, x.strip.nodes = v := ⟨_, rfl⟩
      have HC := Lib.hid (fun W' (hx : Ext W W') => hih W' (hok.ext hx) (by omega))
      rw [hm] at HC hle
      have hgm : g + m ≤ 1000000000 := by have := HG.out; omega
      have HG2 : Hid (g + m = 1 + nodesL ((kids.take (j + 1)).map Fm.strip)) := Lib.hid (by rw [hsn, nodesL_snoc, HG.out, hm]; omega)
      clear hsn hle hsv hih hjl hok hm
      obtain ⟨op', k', ⟨o', d'⟩, a', n', c', kids'⟩ := x
      obtain ⟨r0, r1, r2, r3, r4⟩ := hcell j op' k' (o', d') a' n' c' kids' hgt
      unfold fmV S at HC
      simp only at HC
      clear hcell hgt
      subst ha
      unfold S at r2 r3
      simp only at r2 r3
      have z1 : IntKind.i64.wrap ((g : Int) + (m : Int)) = ((g + m : Nat) : Int) := by rw [IntWalk.i64_in _ ⟨by omega, by omega⟩]; omega
      (try simp only [nsl, Value.cells, unB] at st)
      (try clear hc); have hc := st.facts; (try simp only [nfl, nft, Nat.reduceAdd] at hc)
      go_wp2_with ((first
            | ((with_reducible refine wl_box ?_ (fun K hK => ?_)); rfl; refine owp_box (o := ⟨some 1, _, _, _, _, _⟩) rfl st ?_; apply Exists.intro; refine ⟨?_, ?_⟩; (focus (go_simp; try rfl)); (clear st; intro b1 w hb st; clear hb))
            | ((with_reducible refine wl_alloc ?_ (fun K hK => ?_)); rfl; refine owp_alloc (o := ⟨some 5, _, _, _, _, _⟩) rfl st ?_; apply Exists.intro; apply Exists.intro; refine ⟨?_, ?_⟩; (focus (first | (go_simp; done) | (go_simp; rfl))); (clear st; intro b5 w hb st; clear hb))
            | ((with_reducible refine wl_store ?_ (fun K hK => ?_)); rfl; refine owp_store rfl st ?_; apply Exists.intro; apply Exists.intro; refine ⟨?_, ?_, ?_⟩; (focus (go_simp; try rfl)); (focus (go_simp; try rfl)); (first | (with_reducible refine ⟨0, _, _, _, _, get0, rfl, rfl, ?_, ?_, ?_, ?_⟩) | (with_reducible refine ⟨1, _, _, _, _, get1, rfl, rfl, ?_, ?_, ?_, ?_⟩) | (with_reducible refine ⟨2, _, _, _, _, get2, rfl, rfl, ?_, ?_, ?_, ?_⟩) | (with_reducible refine ⟨3, _, _, _, _, get3, rfl, rfl, ?_, ?_, ?_, ?_⟩)); (kernel_rfl); (simp [Value.cells]); (rfl); (clear st; intro w st))); (try simp only [nsl, Value.cells, unB] at st); (try clear hc); have hc := st.facts; (try simp only [nfl, nft, Nat.reduceAdd] at hc))
      clear r0 r1 r2 r3 r4
      refine (HC.out _ st.ext0).mono ?_
      rintro en w ⟨rfl, hx⟩
      replace st := st.ext hx
      clear hx
      (try simp only [nsl, Value.cells, unB] at st)
      (try clear hc); have hc := st.facts; (try simp only [nfl, nft, Nat.reduceAdd] at hc)
      go_wp2_with fail
      have st' := st.keep [0, 1] (by decide) (by simp)
      go_roundg (n - (j + 1))
      case measure => omega
      case rel => exact ⟨j + 1, g + m, by omega, rfl, by go_num, by go_num, hgm, HG2, by simpa [pick] using st'⟩
    · obtain rfl : n = j := by omega
      have HE : Hid (1 + nodesL (kids.map Fm.strip) = g) := Lib.hid (by rw [HG.out, List.take_of_length_le (by have := HN.out; omega)])
      (try simp only [nsl, Value.cells, unB] at st)
      (try clear hc); have hc := st.facts; (try simp only [nfl, nft, Nat.reduceAdd] at hc)
      go_wp2_with fail
      go_ret
      exact ⟨by rw [HE.out] <;> rfl, st.ext0⟩
set_option maxRecDepth 100000 in
set_option maxHeartbeats 2000000 in
theorem refDeep_any (f : Fm) : ∀ (W : World), FmOk W f → f.strip.nodes ≤ 1000000000 →
    Calls Try.prog 87 #[fmV f] W fun e w' => e = .returned (.int .i64 (f.strip.deep : Int)) ∧ Ext W w' := by
  induction f using Fm.ind
  rename_i op k r a n c kids ih
  intro W hok hs
  obtain ⟨o, d⟩ := r
  rw [strip_mk] at *
  have HN : Hid (n = kids.length) := Lib.hid hok.fl.1
  have HOK := Lib.hid hok
  have HI := Lib.hid ih
  have hdn := deep_nodes (Fo.mk op k (o, d) (kids.map Fm.strip))
  rw [Fo.nodes] at *
  rw [Fo.deep] at *
  have HS : Hid (1 + nodesL (kids.map Fm.strip) ≤ 1000000000 ∧ deepL (kids.map Fm.strip) ≤ 1000000000) := Lib.hid (by omega)
  have hn : n ≤ 1000000000 := by have := nodesL_len (kids.map Fm.strip); rw [List.length_map] at this; have := hok.fl.1; omega
  clear hok ih hs hdn
  have st := Own.startOld W
  unfold fmV S
  simp only
  (try simp only [nsl, Value.cells, unB] at st)
  (try clear hc); have hc := st.facts; (try simp only [nfl, nft, Nat.reduceAdd] at hc)
  go_enter Try.func87, Try.ntmps87
  go_wp2_with ((first
        | ((with_reducible refine wl_box ?_ (fun K hK => ?_)); rfl; refine owp_box (o := ⟨some 1, _, _, _, _, _⟩) rfl st ?_; apply Exists.intro; refine ⟨?_, ?_⟩; (focus (go_simp; try rfl)); (clear st; intro b1 w hb st; clear hb))
        | ((with_reducible refine wl_alloc ?_ (fun K hK => ?_)); rfl; refine owp_alloc (o := ⟨some 5, _, _, _, _, _⟩) rfl st ?_; apply Exists.intro; apply Exists.intro; refine ⟨?_, ?_⟩; (focus (first | (go_simp; done) | (go_simp; rfl))); (clear st; intro b5 w hb st; clear hb))
        | ((with_reducible refine wl_store ?_ (fun K hK => ?_)); rfl; refine owp_store rfl st ?_; apply Exists.intro; apply Exists.intro; refine ⟨?_, ?_, ?_⟩; (focus (go_simp; try rfl)); (focus (go_simp; try rfl)); (first | (with_reducible refine ⟨0, _, _, _, _, get0, rfl, rfl, ?_, ?_, ?_, ?_⟩) | (with_reducible refine ⟨1, _, _, _, _, get1, rfl, rfl, ?_, ?_, ?_, ?_⟩) | (with_reducible refine ⟨2, _, _, _, _, get2, rfl, rfl, ?_, ?_, ?_, ?_⟩) | (with_reducible refine ⟨3, _, _, _, _, get3, rfl, rfl, ?_, ?_, ?_, ?_⟩)); (kernel_rfl); (simp [Value.cells]); (rfl); (clear st; intro w st))); (try simp only [nsl, Value.cells, unB] at st); (try clear hc); have hc := st.facts; (try simp only [nfl, nft, Nat.reduceAdd] at hc))
  go_loopg [3, 9] n (fun q s i wr => ∃ (j g : Nat), j ≤ n ∧ q = n - j ∧ s = .int .i64 (g : Int) ∧ i = .int .i64 (j : Int) ∧ g ≤ 1000000000 ∧ Hid (g = deepL ((kids.take j).map Fm.strip)) ∧ Own (fun _ => False) (fun _ => True) W [oldI W, blkI b1 [.int .i64 op, .int .i64 k, .string ⟨o.toArray⟩, .string ⟨d.toArray⟩, .slice a n c]] wr)
  case atStart => exact ⟨0, 0, by omega, by omega, rfl, rfl, by omega, Lib.hid (by simp [deepL]), st⟩
  case round =>
    obtain ⟨j, g, hj, rfl, rfl, rfl, hg, HG, st'⟩ := hrel
    clear st hc
    have st := st'
    clear st'
    by_cases hjn : j < n
    · obtain ⟨b, off, ha, hcell⟩ := (st.oldFl (i := 0) get0 HOK.out.fl).fm (by omega)
      have hjl : j < kids.length := by have := HN.out; omega
      have hsn := map_snoc_strip kids j hjl
      have hle := nodesL_take (kids.map Fm.strip) (j + 1)
      have hld := deepL_take (kids.map Fm.strip) (j + 1)
      rw [← List.map_take, hsn, nodesL_snoc] at hle
      rw [← List.map_take, hsn, deepL_snoc] at hld
      have hsv := HS.out
      have hok := HOK.out.kids _ (List.getElem_mem hjl)
      have hih := HI.out _ (List.getElem_mem hjl)
      have hgt := List.getElem?_eq_getElem hjl
      generalize kids[j] = x at *
      have HC := Lib.hid (fun W' (hx : Ext W W') => hih W' (hok.ext hx) (by omega))
      obtain ⟨m, hm⟩ : ∃ v, x.strip.deep = v := ⟨_, rfl⟩
      rw [hm] at HC hld
      have hgm : max g m ≤ 1000000000 := by have := HG.out; omega
      have HG2 : Hid (max g m = deepL ((kids.take (j + 1)).map Fm.strip)) := Lib.hid (by rw [hsn, deepL_snoc, ← HG.out, hm])
      clear hsn hle hld hsv hih hjl hok hm
      obtain ⟨op', k', ⟨o', d'⟩, a', n', c', kids'⟩ := x
      obtain ⟨r0, r1, r2, r3, r4⟩ := hcell j op' k' (o', d') a' n' c' kids' hgt
      unfold fmV S at HC
      simp only at HC
      clear hcell hgt
      subst ha
      unfold S at r2 r3
      simp only at r2 r3
      (try simp only [nsl, Value.cells, unB] at st)
      (try clear hc); have hc := st.facts; (try simp only [nfl, nft, Nat.reduceAdd] at hc)
      go_wp2_with ((first
            | ((with_reducible refine wl_box ?_ (fun K hK => ?_)); rfl; refine owp_box (o := ⟨some 1, _, _, _, _, _⟩) rfl st ?_; apply Exists.intro; refine ⟨?_, ?_⟩; (focus (go_simp; try rfl)); (clear st; intro b1 w hb st; clear hb))
            | ((with_reducible refine wl_alloc ?_ (fun K hK => ?_)); rfl; refine owp_alloc (o := ⟨some 5, _, _, _, _, _⟩) rfl st ?_; apply Exists.intro; apply Exists.intro; refine ⟨?_, ?_⟩; (focus (first | (go_simp; done) | (go_simp; rfl))); (clear st; intro b5 w hb st; clear hb))
            | ((with_reducible refine wl_store ?_ (fun K hK => ?_)); rfl; refine owp_store rfl st ?_; apply Exists.intro; apply Exists.intro; refine ⟨?_, ?_, ?_⟩; (focus (go_simp; try rfl)); (focus (go_simp; try rfl)); (first | (with_reducible refine ⟨0, _, _, _, _, get0, rfl, rfl, ?_, ?_, ?_, ?_⟩) | (with_reducible refine ⟨1, _, _, _, _, get1, rfl, rfl, ?_, ?_, ?_, ?_⟩) | (with_reducible refine ⟨2, _, _, _, _, get2, rfl, rfl, ?_, ?_, ?_, ?_⟩) | (with_reducible refine ⟨3, _, _, _, _, get3, rfl, rfl, ?_, ?_, ?_, ?_⟩)); (kernel_rfl); (simp [Value.cells]); (rfl); (clear st; intro w st))); (try simp only [nsl, Value.cells, unB] at st); (try clear hc); have hc := st.facts; (try simp only [nfl, nft, Nat.reduceAdd] at hc))
      clear r0 r1 r2 r3 r4
      refine (HC.out _ st.ext0).mono ?_
      rintro en w ⟨rfl, hx⟩
      replace st := st.ext hx
      clear hx
      obtain ⟨mx, hmx⟩ : ∃ v, max g m = v := ⟨_, rfl⟩
      rw [hmx] at hgm HG2
      by_cases hgm2 : g < m
      · have hgi : (g : Int) < (m : Int) := by omega
        have hgi2 : ¬ (m : Int) ≤ (g : Int) := by omega
        obtain rfl : mx = m := by omega
        clear hgm2
        (try simp only [nsl, Value.cells, unB] at st)
        (try clear hc); have hc := st.facts; (try simp only [nfl, nft, Nat.reduceAdd] at hc)
        go_wp2_with fail
        have st' := st.keep [0, 1] (by decide) (by simp)
        go_roundg (n - (j + 1))
        case measure => omega
        case rel => exact ⟨j + 1, mx, by omega, rfl, by go_num, by go_num, hgm, HG2, by simpa [pick] using st'⟩
      · have hgi : ¬ (g : Int) < (m : Int) := by omega
        have hgi2 : (m : Int) ≤ (g : Int) := by omega
        obtain rfl : mx = g := by omega
        clear hgm2
        (try simp only [nsl, Value.cells, unB] at st)
        (try clear hc); have hc := st.facts; (try simp only [nfl, nft, Nat.reduceAdd] at hc)
        go_wp2_with fail
        have st' := st.keep [0, 1] (by decide) (by simp)
        go_roundg (n - (j + 1))
        case measure => omega
        case rel => exact ⟨j + 1, mx, by omega, rfl, by go_num, by go_num, hgm, HG2, by simpa [pick] using st'⟩
    · obtain rfl : n = j := by omega
      have HE : Hid (deepL (kids.map Fm.strip) = g) := Lib.hid (by rw [HG.out, List.take_of_length_le (by have := HN.out; omega)])
      have z1 : IntKind.i64.wrap ((g : Int) + 1) = ((g + 1 : Nat) : Int) := by rw [IntWalk.i64_in _ ⟨by omega, by omega⟩]; omega
      (try simp only [nsl, Value.cells, unB] at st)
      (try clear hc); have hc := st.facts; (try simp only [nfl, nft, Nat.reduceAdd] at hc)
      go_wp2_with fail
      go_ret
      exact ⟨by rw [HE.out] <;> rfl, st.ext0⟩
end Go.Proofs.Ythjaopojlhdjpaa

namespace Go.Proofs.Ythjaopojlhdjpaa
set_option linter.unusedSimpArgs false
set_option linter.unusedVariables false
open Go Go.RowKit
set_option maxRecDepth 100000 in
set_option maxHeartbeats 4000000 in
theorem refWell_any (f : Fm) : ∀ (W : World), FmOk W f → FoL 100000 f.strip →
    Calls Try.prog 88 #[fmV f] W fun e w' => e = .returned (.bool f.strip.well) ∧ Ext W w' := by
  induction f using Fm.ind
  rename_i op k r a n c kids ih
  intro W hok hl
  obtain ⟨o, d⟩ := r
  rw [strip_mk] at *
  have HRo := Lib.hid (fun W => refRoleRight_any (o, d) W (by have := hl.role.1; simp only at this ⊢; omega) (by have := hl.role.2; simp only at this ⊢; omega))
  unfold rV S at HRo
  simp only at HRo
  have HN : Hid (n = kids.length) := Lib.hid hok.fl.1
  have HOK := Lib.hid hok
  have HI := Lib.hid (fun x hx W h => ih x hx W h (hl.kids x.strip (List.mem_map_of_mem hx)))
  have HV : Hid ((Fo.mk op k (o, d) (kids.map Fm.strip)).well = (nodeR op k (o, d) n && decide (n ≤ 8) && wellL (kids.map Fm.strip))) := Lib.hid (by rw [Fo.well, List.length_map, ← HN.out])
  have HA : Hid (wellL (kids.map Fm.strip) = kids.all fun x => x.strip.well) := Lib.hid (by rw [wellL_all, List.all_map]; rfl)
  have HE0 : Hid (n = 0 → wellL (kids.map Fm.strip) = true) := Lib.hid (fun h => by rw [List.eq_nil_of_length_eq_zero (HN.out.symm.trans h)]; rfl)
  obtain ⟨v, hv⟩ : ∃ v, (Fo.mk op k (o, d) (kids.map Fm.strip)).well = v := ⟨_, rfl⟩
  rw [hv] at HV ⊢
  have HNR : Hid (nodeR op k (o, d) n = (if op = 1 then roleR (o, d) && decide (n = 0) && decide (k = 0) else if op = 2 ∨ op = 3 then roleEq (o, d) ([], []) && decide (k = 0) else decide (op = 4) && roleEq (o, d) ([], []) && decide (0 ≤ k) && decide (k ≤ (n : Int)) && decide (1 ≤ n))) := Lib.hid (by unfold nodeR roleEq; rfl)
  generalize wellL (kids.map Fm.strip) = wv at *
  generalize nodeR op k (o, d) n = nr at *
  obtain ⟨e, he⟩ : ∃ v, roleEq (o, d) ([], []) = v := ⟨_, rfl⟩
  have heq := eqRole o d [] []
  rw [he] at HNR heq
  clear he hv hok ih hl
  have st := Own.startOld W
  unfold fmV S
  simp only
  (try simp only [nsl, Value.cells, unB] at st)
  (try clear hc); have hc := st.facts; (try simp only [nfl, nft, Nat.reduceAdd] at hc)
  go_enter Try.func88, Try.ntmps88
  by_cases o1 : op = 1
  · subst o1
    have HV2 : Hid (v = (roleR (o, d) && decide (n = 0) && decide (k = 0))) := Lib.hid (by
      rw [HV.out, HNR.out, if_pos rfl]
      by_cases q : n = 0
      · rw [HE0.out q]; simp [q]
      · simp [q])
    clear HV HNR heq HA HE0 HI
    have b1 : ((1 : Int) == 1) = true := rfl
    go_wp2_with ((first
          | ((with_reducible refine wl_box ?_ (fun K hK => ?_)); rfl; refine owp_box (o := ⟨some 1, _, _, _, _, _⟩) rfl st ?_; apply Exists.intro; refine ⟨?_, ?_⟩; (focus (go_simp; try rfl)); (clear st; intro b1 w hb st; clear hb))
          | ((with_reducible refine wl_alloc ?_ (fun K hK => ?_)); rfl; refine owp_alloc (o := ⟨some 5, _, _, _, _, _⟩) rfl st ?_; apply Exists.intro; apply Exists.intro; refine ⟨?_, ?_⟩; (focus (first | (go_simp; done) | (go_simp; rfl))); (clear st; intro b5 w hb st; clear hb))
          | ((with_reducible refine wl_store ?_ (fun K hK => ?_)); rfl; refine owp_store rfl st ?_; apply Exists.intro; apply Exists.intro; refine ⟨?_, ?_, ?_⟩; (focus (go_simp; try rfl)); (focus (go_simp; try rfl)); (first | (with_reducible refine ⟨0, _, _, _, _, get0, rfl, rfl, ?_, ?_, ?_, ?_⟩) | (with_reducible refine ⟨1, _, _, _, _, get1, rfl, rfl, ?_, ?_, ?_, ?_⟩) | (with_reducible refine ⟨2, _, _, _, _, get2, rfl, rfl, ?_, ?_, ?_, ?_⟩) | (with_reducible refine ⟨3, _, _, _, _, get3, rfl, rfl, ?_, ?_, ?_, ?_⟩)); (kernel_rfl); (simp [Value.cells]); (rfl); (clear st; intro w st))); (try simp only [nsl, Value.cells, unB] at st); (try clear hc); have hc := st.facts; (try simp only [nfl, nft, Nat.reduceAdd] at hc))
    refine (HRo.out _).mono ?_
    rintro en w ⟨rfl, hx⟩
    replace st := st.ext hx
    clear hx
    (try clear hc); have hc := st.facts; (try simp only [nfl, nft, Nat.reduceAdd] at hc)
    cases hr : roleR (o, d) with
    | false =>
      have H : Hid (v = false) := Lib.hid (by rw [HV2.out, hr]; rfl)
      clear hr
      (try simp only [nsl, Value.cells, unB] at st)
      (try clear hc); have hc := st.facts; (try simp only [nfl, nft, Nat.reduceAdd] at hc)
      go_wp2_with ((first
            | ((with_reducible refine wl_box ?_ (fun K hK => ?_)); rfl; refine owp_box (o := ⟨some 1, _, _, _, _, _⟩) rfl st ?_; apply Exists.intro; refine ⟨?_, ?_⟩; (focus (go_simp; try rfl)); (clear st; intro b1 w hb st; clear hb))
            | ((with_reducible refine wl_alloc ?_ (fun K hK => ?_)); rfl; refine owp_alloc (o := ⟨some 5, _, _, _, _, _⟩) rfl st ?_; apply Exists.intro; apply Exists.intro; refine ⟨?_, ?_⟩; (focus (first | (go_simp; done) | (go_simp; rfl))); (clear st; intro b5 w hb st; clear hb))
            | ((with_reducible refine wl_store ?_ (fun K hK => ?_)); rfl; refine owp_store rfl st ?_; apply Exists.intro; apply Exists.intro; refine ⟨?_, ?_, ?_⟩; (focus (go_simp; try rfl)); (focus (go_simp; try rfl)); (first | (with_reducible refine ⟨0, _, _, _, _, get0, rfl, rfl, ?_, ?_, ?_, ?_⟩) | (with_reducible refine ⟨1, _, _, _, _, get1, rfl, rfl, ?_, ?_, ?_, ?_⟩) | (with_reducible refine ⟨2, _, _, _, _, get2, rfl, rfl, ?_, ?_, ?_, ?_⟩) | (with_reducible refine ⟨3, _, _, _, _, get3, rfl, rfl, ?_, ?_, ?_, ?_⟩)); (kernel_rfl); (simp [Value.cells]); (rfl); (clear st; intro w st))); (try simp only [nsl, Value.cells, unB] at st); (try clear hc); have hc := st.facts; (try simp only [nfl, nft, Nat.reduceAdd] at hc))
      go_ret
      exact ⟨by rw [H.out] <;> rfl, st.ext0⟩
    | true =>
      by_cases n0 : n = 0
      · subst n0
        by_cases k0 : k = 0
        · subst k0
          have H : Hid (v = true) := Lib.hid (by rw [HV2.out, hr]; rfl)
          clear hr
          (try simp only [nsl, Value.cells, unB] at st)
          (try clear hc); have hc := st.facts; (try simp only [nfl, nft, Nat.reduceAdd] at hc)
          go_wp2_with ((first
                | ((with_reducible refine wl_box ?_ (fun K hK => ?_)); rfl; refine owp_box (o := ⟨some 1, _, _, _, _, _⟩) rfl st ?_; apply Exists.intro; refine ⟨?_, ?_⟩; (focus (go_simp; try rfl)); (clear st; intro b1 w hb st; clear hb))
                | ((with_reducible refine wl_alloc ?_ (fun K hK => ?_)); rfl; refine owp_alloc (o := ⟨some 5, _, _, _, _, _⟩) rfl st ?_; apply Exists.intro; apply Exists.intro; refine ⟨?_, ?_⟩; (focus (first | (go_simp; done) | (go_simp; rfl))); (clear st; intro b5 w hb st; clear hb))
                | ((with_reducible refine wl_store ?_ (fun K hK => ?_)); rfl; refine owp_store rfl st ?_; apply Exists.intro; apply Exists.intro; refine ⟨?_, ?_, ?_⟩; (focus (go_simp; try rfl)); (focus (go_simp; try rfl)); (first | (with_reducible refine ⟨0, _, _, _, _, get0, rfl, rfl, ?_, ?_, ?_, ?_⟩) | (with_reducible refine ⟨1, _, _, _, _, get1, rfl, rfl, ?_, ?_, ?_, ?_⟩) | (with_reducible refine ⟨2, _, _, _, _, get2, rfl, rfl, ?_, ?_, ?_, ?_⟩) | (with_reducible refine ⟨3, _, _, _, _, get3, rfl, rfl, ?_, ?_, ?_, ?_⟩)); (kernel_rfl); (simp [Value.cells]); (rfl); (clear st; intro w st))); (try simp only [nsl, Value.cells, unB] at st); (try clear hc); have hc := st.facts; (try simp only [nfl, nft, Nat.reduceAdd] at hc))
          go_ret
          exact ⟨by rw [H.out] <;> rfl, st.ext0⟩
        · have H : Hid (v = false) := Lib.hid (by rw [HV2.out, hr]; simp [k0])
          have hk0 : (k == 0) = false := by simpa using k0
          clear hr k0
          (try simp only [nsl, Value.cells, unB] at st)
          (try clear hc); have hc := st.facts; (try simp only [nfl, nft, Nat.reduceAdd] at hc)
          go_wp2_with ((first
                | ((with_reducible refine wl_box ?_ (fun K hK => ?_)); rfl; refine owp_box (o := ⟨some 1, _, _, _, _, _⟩) rfl st ?_; apply Exists.intro; refine ⟨?_, ?_⟩; (focus (go_simp; try rfl)); (clear st; intro b1 w hb st; clear hb))
                | ((with_reducible refine wl_alloc ?_ (fun K hK => ?_)); rfl; refine owp_alloc (o := ⟨some 5, _, _, _, _, _⟩) rfl st ?_; apply Exists.intro; apply Exists.intro; refine ⟨?_, ?_⟩; (focus (first | (go_simp; done) | (go_simp; rfl))); (clear st; intro b5 w hb st; clear hb))
                | ((with_reducible refine wl_store ?_ (fun K hK => ?_)); rfl; refine owp_store rfl st ?_; apply Exists.intro; apply Exists.intro; refine ⟨?_, ?_, ?_⟩; (focus (go_simp; try rfl)); (focus (go_simp; try rfl)); (first | (with_reducible refine ⟨0, _, _, _, _, get0, rfl, rfl, ?_, ?_, ?_, ?_⟩) | (with_reducible refine ⟨1, _, _, _, _, get1, rfl, rfl, ?_, ?_, ?_, ?_⟩) | (with_reducible refine ⟨2, _, _, _, _, get2, rfl, rfl, ?_, ?_, ?_, ?_⟩) | (with_reducible refine ⟨3, _, _, _, _, get3, rfl, rfl, ?_, ?_, ?_, ?_⟩)); (kernel_rfl); (simp [Value.cells]); (rfl); (clear st; intro w st))); (try simp only [nsl, Value.cells, unB] at st); (try clear hc); have hc := st.facts; (try simp only [nfl, nft, Nat.reduceAdd] at hc))
          go_ret
          exact ⟨by rw [H.out] <;> rfl, st.ext0⟩
      · have H : Hid (v = false) := Lib.hid (by rw [HV2.out, hr]; simp [n0])
        have hn0 : ((n : Int) == 0) = false := by simp; omega
        clear hr n0
        (try simp only [nsl, Value.cells, unB] at st)
        (try clear hc); have hc := st.facts; (try simp only [nfl, nft, Nat.reduceAdd] at hc)
        go_wp2_with ((first
              | ((with_reducible refine wl_box ?_ (fun K hK => ?_)); rfl; refine owp_box (o := ⟨some 1, _, _, _, _, _⟩) rfl st ?_; apply Exists.intro; refine ⟨?_, ?_⟩; (focus (go_simp; try rfl)); (clear st; intro b1 w hb st; clear hb))
              | ((with_reducible refine wl_alloc ?_ (fun K hK => ?_)); rfl; refine owp_alloc (o := ⟨some 5, _, _, _, _, _⟩) rfl st ?_; apply Exists.intro; apply Exists.intro; refine ⟨?_, ?_⟩; (focus (first | (go_simp; done) | (go_simp; rfl))); (clear st; intro b5 w hb st; clear hb))
              | ((with_reducible refine wl_store ?_ (fun K hK => ?_)); rfl; refine owp_store rfl st ?_; apply Exists.intro; apply Exists.intro; refine ⟨?_, ?_, ?_⟩; (focus (go_simp; try rfl)); (focus (go_simp; try rfl)); (first | (with_reducible refine ⟨0, _, _, _, _, get0, rfl, rfl, ?_, ?_, ?_, ?_⟩) | (with_reducible refine ⟨1, _, _, _, _, get1, rfl, rfl, ?_, ?_, ?_, ?_⟩) | (with_reducible refine ⟨2, _, _, _, _, get2, rfl, rfl, ?_, ?_, ?_, ?_⟩) | (with_reducible refine ⟨3, _, _, _, _, get3, rfl, rfl, ?_, ?_, ?_, ?_⟩)); (kernel_rfl); (simp [Value.cells]); (rfl); (clear st; intro w st))); (try simp only [nsl, Value.cells, unB] at st); (try clear hc); have hc := st.facts; (try simp only [nfl, nft, Nat.reduceAdd] at hc))
        go_ret
        exact ⟨by rw [H.out] <;> rfl, st.ext0⟩
  · have b1 : (op == 1) = false := by simpa using o1
    by_cases p1 : op < 1
    · have H : Hid (v = false) := Lib.hid (by rw [HV.out, HNR.out, if_neg o1, if_neg (by omega), decide_eq_false (show ¬ op = 4 by omega)]; rfl)
      clear HV HNR HRo HA HE0 HI
      (try simp only [nsl, Value.cells, unB] at st)
      (try clear hc); have hc := st.facts; (try simp only [nfl, nft, Nat.reduceAdd] at hc)
      go_wp2_with ((first
            | ((with_reducible refine wl_box ?_ (fun K hK => ?_)); rfl; refine owp_box (o := ⟨some 1, _, _, _, _, _⟩) rfl st ?_; apply Exists.intro; refine ⟨?_, ?_⟩; (focus (go_simp; try rfl)); (clear st; intro b1 w hb st; clear hb))
            | ((with_reducible refine wl_alloc ?_ (fun K hK => ?_)); rfl; refine owp_alloc (o := ⟨some 5, _, _, _, _, _⟩) rfl st ?_; apply Exists.intro; apply Exists.intro; refine ⟨?_, ?_⟩; (focus (first | (go_simp; done) | (go_simp; rfl))); (clear st; intro b5 w hb st; clear hb))
            | ((with_reducible refine wl_store ?_ (fun K hK => ?_)); rfl; refine owp_store rfl st ?_; apply Exists.intro; apply Exists.intro; refine ⟨?_, ?_, ?_⟩; (focus (go_simp; try rfl)); (focus (go_simp; try rfl)); (first | (with_reducible refine ⟨0, _, _, _, _, get0, rfl, rfl, ?_, ?_, ?_, ?_⟩) | (with_reducible refine ⟨1, _, _, _, _, get1, rfl, rfl, ?_, ?_, ?_, ?_⟩) | (with_reducible refine ⟨2, _, _, _, _, get2, rfl, rfl, ?_, ?_, ?_, ?_⟩) | (with_reducible refine ⟨3, _, _, _, _, get3, rfl, rfl, ?_, ?_, ?_, ?_⟩)); (kernel_rfl); (simp [Value.cells]); (rfl); (clear st; intro w st))); (try simp only [nsl, Value.cells, unB] at st); (try clear hc); have hc := st.facts; (try simp only [nfl, nft, Nat.reduceAdd] at hc))
      go_ret
      exact ⟨by rw [H.out] <;> rfl, st.ext0⟩
    by_cases p4 : 4 < op
    · have H : Hid (v = false) := Lib.hid (by rw [HV.out, HNR.out, if_neg o1, if_neg (by omega), decide_eq_false (show ¬ op = 4 by omega)]; rfl)
      clear HV HNR HRo HA HE0 HI
      (try simp only [nsl, Value.cells, unB] at st)
      (try clear hc); have hc := st.facts; (try simp only [nfl, nft, Nat.reduceAdd] at hc)
      go_wp2_with ((first
            | ((with_reducible refine wl_box ?_ (fun K hK => ?_)); rfl; refine owp_box (o := ⟨some 1, _, _, _, _, _⟩) rfl st ?_; apply Exists.intro; refine ⟨?_, ?_⟩; (focus (go_simp; try rfl)); (clear st; intro b1 w hb st; clear hb))
            | ((with_reducible refine wl_alloc ?_ (fun K hK => ?_)); rfl; refine owp_alloc (o := ⟨some 5, _, _, _, _, _⟩) rfl st ?_; apply Exists.intro; apply Exists.intro; refine ⟨?_, ?_⟩; (focus (first | (go_simp; done) | (go_simp; rfl))); (clear st; intro b5 w hb st; clear hb))
            | ((with_reducible refine wl_store ?_ (fun K hK => ?_)); rfl; refine owp_store rfl st ?_; apply Exists.intro; apply Exists.intro; refine ⟨?_, ?_, ?_⟩; (focus (go_simp; try rfl)); (focus (go_simp; try rfl)); (first | (with_reducible refine ⟨0, _, _, _, _, get0, rfl, rfl, ?_, ?_, ?_, ?_⟩) | (with_reducible refine ⟨1, _, _, _, _, get1, rfl, rfl, ?_, ?_, ?_, ?_⟩) | (with_reducible refine ⟨2, _, _, _, _, get2, rfl, rfl, ?_, ?_, ?_, ?_⟩) | (with_reducible refine ⟨3, _, _, _, _, get3, rfl, rfl, ?_, ?_, ?_, ?_⟩)); (kernel_rfl); (simp [Value.cells]); (rfl); (clear st; intro w st))); (try simp only [nsl, Value.cells, unB] at st); (try clear hc); have hc := st.facts; (try simp only [nfl, nft, Nat.reduceAdd] at hc))
      go_ret
      exact ⟨by rw [H.out] <;> rfl, st.ext0⟩
    cases e with
    | false =>
      have H : Hid (v = false) := Lib.hid (by rw [HV.out, HNR.out, if_neg o1]; simp)
      clear HV HNR HRo HA HE0 HI
      (try simp only [nsl, Value.cells, unB] at st)
      (try clear hc); have hc := st.facts; (try simp only [nfl, nft, Nat.reduceAdd] at hc)
      go_wp2_with ((first
            | ((with_reducible refine wl_box ?_ (fun K hK => ?_)); rfl; refine owp_box (o := ⟨some 1, _, _, _, _, _⟩) rfl st ?_; apply Exists.intro; refine ⟨?_, ?_⟩; (focus (go_simp; try rfl)); (clear st; intro b1 w hb st; clear hb))
            | ((with_reducible refine wl_alloc ?_ (fun K hK => ?_)); rfl; refine owp_alloc (o := ⟨some 5, _, _, _, _, _⟩) rfl st ?_; apply Exists.intro; apply Exists.intro; refine ⟨?_, ?_⟩; (focus (first | (go_simp; done) | (go_simp; rfl))); (clear st; intro b5 w hb st; clear hb))
            | ((with_reducible refine wl_store ?_ (fun K hK => ?_)); rfl; refine owp_store rfl st ?_; apply Exists.intro; apply Exists.intro; refine ⟨?_, ?_, ?_⟩; (focus (go_simp; try rfl)); (focus (go_simp; try rfl)); (first | (with_reducible refine ⟨0, _, _, _, _, get0, rfl, rfl, ?_, ?_, ?_, ?_⟩) | (with_reducible refine ⟨1, _, _, _, _, get1, rfl, rfl, ?_, ?_, ?_, ?_⟩) | (with_reducible refine ⟨2, _, _, _, _, get2, rfl, rfl, ?_, ?_, ?_, ?_⟩) | (with_reducible refine ⟨3, _, _, _, _, get3, rfl, rfl, ?_, ?_, ?_, ?_⟩)); (kernel_rfl); (simp [Value.cells]); (rfl); (clear st; intro w st))); (try simp only [nsl, Value.cells, unB] at st); (try clear hc); have hc := st.facts; (try simp only [nfl, nft, Nat.reduceAdd] at hc))
      go_ret
      exact ⟨by rw [H.out] <;> rfl, st.ext0⟩
    | true =>
      by_cases n8 : n ≤ 8
      · have n8i : ¬ (8 : Int) < (n : Int) := by omega
        by_cases o4 : op = 4
        · subst o4
          have b4 : ((4 : Int) == 4) = true := rfl
          by_cases n1 : 1 ≤ n
          · have n1i : ¬ (n : Int) < 1 := by omega
            by_cases k0 : k < 0
            · have H : Hid (v = false) := Lib.hid (by rw [HV.out, HNR.out, if_neg o1, if_neg (by omega), decide_eq_false (show ¬ 0 ≤ k by omega)]; simp)
              clear HV HNR HRo HA HE0 HI
              (try simp only [nsl, Value.cells, unB] at st)
              (try clear hc); have hc := st.facts; (try simp only [nfl, nft, Nat.reduceAdd] at hc)
              go_wp2_with ((first
                    | ((with_reducible refine wl_box ?_ (fun K hK => ?_)); rfl; refine owp_box (o := ⟨some 1, _, _, _, _, _⟩) rfl st ?_; apply Exists.intro; refine ⟨?_, ?_⟩; (focus (go_simp; try rfl)); (clear st; intro b1 w hb st; clear hb))
                    | ((with_reducible refine wl_alloc ?_ (fun K hK => ?_)); rfl; refine owp_alloc (o := ⟨some 5, _, _, _, _, _⟩) rfl st ?_; apply Exists.intro; apply Exists.intro; refine ⟨?_, ?_⟩; (focus (first | (go_simp; done) | (go_simp; rfl))); (clear st; intro b5 w hb st; clear hb))
                    | ((with_reducible refine wl_store ?_ (fun K hK => ?_)); rfl; refine owp_store rfl st ?_; apply Exists.intro; apply Exists.intro; refine ⟨?_, ?_, ?_⟩; (focus (go_simp; try rfl)); (focus (go_simp; try rfl)); (first | (with_reducible refine ⟨0, _, _, _, _, get0, rfl, rfl, ?_, ?_, ?_, ?_⟩) | (with_reducible refine ⟨1, _, _, _, _, get1, rfl, rfl, ?_, ?_, ?_, ?_⟩) | (with_reducible refine ⟨2, _, _, _, _, get2, rfl, rfl, ?_, ?_, ?_, ?_⟩) | (with_reducible refine ⟨3, _, _, _, _, get3, rfl, rfl, ?_, ?_, ?_, ?_⟩)); (kernel_rfl); (simp [Value.cells]); (rfl); (clear st; intro w st))); (try simp only [nsl, Value.cells, unB] at st); (try clear hc); have hc := st.facts; (try simp only [nfl, nft, Nat.reduceAdd] at hc))
              go_ret
              exact ⟨by rw [H.out] <;> rfl, st.ext0⟩
            · by_cases kn : (n : Int) < k
              · have H : Hid (v = false) := Lib.hid (by rw [HV.out, HNR.out, if_neg o1, if_neg (by omega), decide_eq_false (show ¬ k ≤ (n : Int) by omega)]; simp)
                clear HV HNR HRo HA HE0 HI
                (try simp only [nsl, Value.cells, unB] at st)
                (try clear hc); have hc := st.facts; (try simp only [nfl, nft, Nat.reduceAdd] at hc)
                go_wp2_with ((first
                      | ((with_reducible refine wl_box ?_ (fun K hK => ?_)); rfl; refine owp_box (o := ⟨some 1, _, _, _, _, _⟩) rfl st ?_; apply Exists.intro; refine ⟨?_, ?_⟩; (focus (go_simp; try rfl)); (clear st; intro b1 w hb st; clear hb))
                      | ((with_reducible refine wl_alloc ?_ (fun K hK => ?_)); rfl; refine owp_alloc (o := ⟨some 5, _, _, _, _, _⟩) rfl st ?_; apply Exists.intro; apply Exists.intro; refine ⟨?_, ?_⟩; (focus (first | (go_simp; done) | (go_simp; rfl))); (clear st; intro b5 w hb st; clear hb))
                      | ((with_reducible refine wl_store ?_ (fun K hK => ?_)); rfl; refine owp_store rfl st ?_; apply Exists.intro; apply Exists.intro; refine ⟨?_, ?_, ?_⟩; (focus (go_simp; try rfl)); (focus (go_simp; try rfl)); (first | (with_reducible refine ⟨0, _, _, _, _, get0, rfl, rfl, ?_, ?_, ?_, ?_⟩) | (with_reducible refine ⟨1, _, _, _, _, get1, rfl, rfl, ?_, ?_, ?_, ?_⟩) | (with_reducible refine ⟨2, _, _, _, _, get2, rfl, rfl, ?_, ?_, ?_, ?_⟩) | (with_reducible refine ⟨3, _, _, _, _, get3, rfl, rfl, ?_, ?_, ?_, ?_⟩)); (kernel_rfl); (simp [Value.cells]); (rfl); (clear st; intro w st))); (try simp only [nsl, Value.cells, unB] at st); (try clear hc); have hc := st.facts; (try simp only [nfl, nft, Nat.reduceAdd] at hc))
                go_ret
                exact ⟨by rw [H.out] <;> rfl, st.ext0⟩
              · have HW : Hid (v = wv) := Lib.hid (by rw [HV.out, HNR.out, if_neg o1, if_neg (by omega), decide_eq_true (show 0 ≤ k by omega), decide_eq_true (show k ≤ (n : Int) by omega), decide_eq_true n1, decide_eq_true n8]; simp)
                clear HV HNR HRo HE0
                (try simp only [nsl, Value.cells, unB] at st)
                (try clear hc); have hc := st.facts; (try simp only [nfl, nft, Nat.reduceAdd] at hc)
                go_wp2_with ((first
                      | ((with_reducible refine wl_box ?_ (fun K hK => ?_)); rfl; refine owp_box (o := ⟨some 1, _, _, _, _, _⟩) rfl st ?_; apply Exists.intro; refine ⟨?_, ?_⟩; (focus (go_simp; try rfl)); (clear st; intro b1 w hb st; clear hb))
                      | ((with_reducible refine wl_alloc ?_ (fun K hK => ?_)); rfl; refine owp_alloc (o := ⟨some 5, _, _, _, _, _⟩) rfl st ?_; apply Exists.intro; apply Exists.intro; refine ⟨?_, ?_⟩; (focus (first | (go_simp; done) | (go_simp; rfl))); (clear st; intro b5 w hb st; clear hb))
                      | ((with_reducible refine wl_store ?_ (fun K hK => ?_)); rfl; refine owp_store rfl st ?_; apply Exists.intro; apply Exists.intro; refine ⟨?_, ?_, ?_⟩; (focus (go_simp; try rfl)); (focus (go_simp; try rfl)); (first | (with_reducible refine ⟨0, _, _, _, _, get0, rfl, rfl, ?_, ?_, ?_, ?_⟩) | (with_reducible refine ⟨1, _, _, _, _, get1, rfl, rfl, ?_, ?_, ?_, ?_⟩) | (with_reducible refine ⟨2, _, _, _, _, get2, rfl, rfl, ?_, ?_, ?_, ?_⟩) | (with_reducible refine ⟨3, _, _, _, _, get3, rfl, rfl, ?_, ?_, ?_, ?_⟩)); (kernel_rfl); (simp [Value.cells]); (rfl); (clear st; intro w st))); (try simp only [nsl, Value.cells, unB] at st); (try clear hc); have hc := st.facts; (try simp only [nfl, nft, Nat.reduceAdd] at hc))
                go_loopg [73] n (fun q i wr => ∃ (j : Nat), j ≤ n ∧ q = n - j ∧ i = .int .i64 (j : Int) ∧ Hid (((kids.take j).all fun x => x.strip.well) = true) ∧ Own (fun _ => False) (fun _ => True) W [oldI W, blkI b1 [.int .i64 4, .int .i64 k, .string ⟨o.toArray⟩, .string ⟨d.toArray⟩, .slice a n c]] wr)
                case atStart => exact ⟨0, by omega, by omega, rfl, Lib.hid (by simp), st⟩
                case round =>
                  obtain ⟨j, hj, rfl, rfl, HG, st'⟩ := hrel
                  clear st hc
                  have st := st'
                  clear st'
                  by_cases hjn : j < n
                  · obtain ⟨b, off, ha, hcell⟩ := (st.oldFl (i := 0) get0 HOK.out.fl).fm (by omega)
                    have hjl : j < kids.length := by have := HN.out; omega
                    have HT : Hid (kids.take (j + 1) = kids.take j ++ [kids[j]]) := Lib.hid (List.take_append_getElem hjl).symm
                    have hok := HOK.out.kids _ (List.getElem_mem hjl)
                    have hih := HI.out _ (List.getElem_mem hjl)
                    have hgt := List.getElem?_eq_getElem hjl
                    have HM : Hid (kids[j] ∈ kids) := Lib.hid (List.getElem_mem hjl)
                    generalize kids[j] = x at *
                    obtain ⟨m, hm⟩ : ∃ v, x.strip.well = v := ⟨_, rfl⟩
                    have HC := Lib.hid (fun W' (hx : Ext W W') => hih W' (hok.ext hx))
                    rw [hm] at HC
                    have HX : Hid (x.strip.well = m) := Lib.hid hm
                    clear hih hjl hok hm
                    obtain ⟨xx, hxx⟩ : ∃ y, x = y := ⟨_, rfl⟩
                    rw [hxx] at HT HX HM
                    obtain ⟨op', k', ⟨o', d'⟩, a', n', c', kids'⟩ := x
                    obtain ⟨r0, r1, r2, r3, r4⟩ := hcell j op' k' (o', d') a' n' c' kids' hgt
                    unfold fmV S at HC
                    simp only at HC
                    clear hcell hgt hxx
                    subst ha
                    unfold S at r2 r3
                    simp only at r2 r3
                    (try simp only [nsl, Value.cells, unB] at st)
                    (try clear hc); have hc := st.facts; (try simp only [nfl, nft, Nat.reduceAdd] at hc)
                    go_wp2_with ((first
                          | ((with_reducible refine wl_box ?_ (fun K hK => ?_)); rfl; refine owp_box (o := ⟨some 1, _, _, _, _, _⟩) rfl st ?_; apply Exists.intro; refine ⟨?_, ?_⟩; (focus (go_simp; try rfl)); (clear st; intro b1 w hb st; clear hb))
                          | ((with_reducible refine wl_alloc ?_ (fun K hK => ?_)); rfl; refine owp_alloc (o := ⟨some 5, _, _, _, _, _⟩) rfl st ?_; apply Exists.intro; apply Exists.intro; refine ⟨?_, ?_⟩; (focus (first | (go_simp; done) | (go_simp; rfl))); (clear st; intro b5 w hb st; clear hb))
                          | ((with_reducible refine wl_store ?_ (fun K hK => ?_)); rfl; refine owp_store rfl st ?_; apply Exists.intro; apply Exists.intro; refine ⟨?_, ?_, ?_⟩; (focus (go_simp; try rfl)); (focus (go_simp; try rfl)); (first | (with_reducible refine ⟨0, _, _, _, _, get0, rfl, rfl, ?_, ?_, ?_, ?_⟩) | (with_reducible refine ⟨1, _, _, _, _, get1, rfl, rfl, ?_, ?_, ?_, ?_⟩) | (with_reducible refine ⟨2, _, _, _, _, get2, rfl, rfl, ?_, ?_, ?_, ?_⟩) | (with_reducible refine ⟨3, _, _, _, _, get3, rfl, rfl, ?_, ?_, ?_, ?_⟩)); (kernel_rfl); (simp [Value.cells]); (rfl); (clear st; intro w st))); (try simp only [nsl, Value.cells, unB] at st); (try clear hc); have hc := st.facts; (try simp only [nfl, nft, Nat.reduceAdd] at hc))
                    clear r0 r1 r2 r3 r4
                    refine (HC.out _ st.ext0).mono ?_
                    rintro en w ⟨rfl, hx⟩
                    replace st := st.ext hx
                    clear hx
                    cases m with
                    | false =>
                      have H : Hid (v = false) := Lib.hid (by
                        rw [HW.out, HA.out, Bool.eq_false_iff]
                        intro q
                        have := List.all_eq_true.1 q xx HM.out
                        rw [HX.out] at this
                        cases this)
                      (try simp only [nsl, Value.cells, unB] at st)
                      (try clear hc); have hc := st.facts; (try simp only [nfl, nft, Nat.reduceAdd] at hc)
                      go_wp2_with fail
                      go_ret
                      exact ⟨by rw [H.out] <;> rfl, st.ext0⟩
                    | true =>
                      have HG2 : Hid (((kids.take (j + 1)).all fun x => x.strip.well) = true) := Lib.hid (by rw [HT.out, List.all_append, HG.out]; simp [HX.out])
                      (try simp only [nsl, Value.cells, unB] at st)
                      (try clear hc); have hc := st.facts; (try simp only [nfl, nft, Nat.reduceAdd] at hc)
                      go_wp2_with fail
                      have st' := st.keep [0, 1] (by decide) (by simp)
                      go_roundg (n - (j + 1))
                      case measure => omega
                      case rel => exact ⟨j + 1, by omega, rfl, by go_num, HG2, by simpa [pick] using st'⟩
                  · obtain rfl : n = j := by omega
                    have H : Hid (v = true) := Lib.hid (by rw [HW.out, HA.out, ← HG.out, List.take_of_length_le (by have := HN.out; omega)])
                    (try simp only [nsl, Value.cells, unB] at st)
                    (try clear hc); have hc := st.facts; (try simp only [nfl, nft, Nat.reduceAdd] at hc)
                    go_wp2_with fail
                    go_ret
                    exact ⟨by rw [H.out] <;> rfl, st.ext0⟩
          · have n1i : (n : Int) < 1 := by omega
            have H : Hid (v = false) := Lib.hid (by rw [HV.out, HNR.out, if_neg o1, if_neg (by omega), decide_eq_false n1]; simp)
            clear HV HNR HRo HA HE0 HI n1
            (try simp only [nsl, Value.cells, unB] at st)
            (try clear hc); have hc := st.facts; (try simp only [nfl, nft, Nat.reduceAdd] at hc)
            go_wp2_with ((first
                  | ((with_reducible refine wl_box ?_ (fun K hK => ?_)); rfl; refine owp_box (o := ⟨some 1, _, _, _, _, _⟩) rfl st ?_; apply Exists.intro; refine ⟨?_, ?_⟩; (focus (go_simp; try rfl)); (clear st; intro b1 w hb st; clear hb))
                  | ((with_reducible refine wl_alloc ?_ (fun K hK => ?_)); rfl; refine owp_alloc (o := ⟨some 5, _, _, _, _, _⟩) rfl st ?_; apply Exists.intro; apply Exists.intro; refine ⟨?_, ?_⟩; (focus (first | (go_simp; done) | (go_simp; rfl))); (clear st; intro b5 w hb st; clear hb))
                  | ((with_reducible refine wl_store ?_ (fun K hK => ?_)); rfl; refine owp_store rfl st ?_; apply Exists.intro; apply Exists.intro; refine ⟨?_, ?_, ?_⟩; (focus (go_simp; try rfl)); (focus (go_simp; try rfl)); (first | (with_reducible refine ⟨0, _, _, _, _, get0, rfl, rfl, ?_, ?_, ?_, ?_⟩) | (with_reducible refine ⟨1, _, _, _, _, get1, rfl, rfl, ?_, ?_, ?_, ?_⟩) | (with_reducible refine ⟨2, _, _, _, _, get2, rfl, rfl, ?_, ?_, ?_, ?_⟩) | (with_reducible refine ⟨3, _, _, _, _, get3, rfl, rfl, ?_, ?_, ?_, ?_⟩)); (kernel_rfl); (simp [Value.cells]); (rfl); (clear st; intro w st))); (try simp only [nsl, Value.cells, unB] at st); (try clear hc); have hc := st.facts; (try simp only [nfl, nft, Nat.reduceAdd] at hc))
            go_ret
            exact ⟨by rw [H.out] <;> rfl, st.ext0⟩
        · have b4 : (op == 4) = false := by simpa using o4
          have o4i : op < 4 := by omega
          have o23 : op = 2 ∨ op = 3 := by omega
          by_cases k0 : k = 0
          · have HW : Hid (v = wv) := Lib.hid (by rw [HV.out, HNR.out, if_neg o1, if_pos o23, decide_eq_true k0, decide_eq_true n8]; simp)
            clear HV HNR HRo HE0 o23 o4
            subst k0
            (try simp only [nsl, Value.cells, unB] at st)
            (try clear hc); have hc := st.facts; (try simp only [nfl, nft, Nat.reduceAdd] at hc)
            go_wp2_with ((first
                  | ((with_reducible refine wl_box ?_ (fun K hK => ?_)); rfl; refine owp_box (o := ⟨some 1, _, _, _, _, _⟩) rfl st ?_; apply Exists.intro; refine ⟨?_, ?_⟩; (focus (go_simp; try rfl)); (clear st; intro b1 w hb st; clear hb))
                  | ((with_reducible refine wl_alloc ?_ (fun K hK => ?_)); rfl; refine owp_alloc (o := ⟨some 5, _, _, _, _, _⟩) rfl st ?_; apply Exists.intro; apply Exists.intro; refine ⟨?_, ?_⟩; (focus (first | (go_simp; done) | (go_simp; rfl))); (clear st; intro b5 w hb st; clear hb))
                  | ((with_reducible refine wl_store ?_ (fun K hK => ?_)); rfl; refine owp_store rfl st ?_; apply Exists.intro; apply Exists.intro; refine ⟨?_, ?_, ?_⟩; (focus (go_simp; try rfl)); (focus (go_simp; try rfl)); (first | (with_reducible refine ⟨0, _, _, _, _, get0, rfl, rfl, ?_, ?_, ?_, ?_⟩) | (with_reducible refine ⟨1, _, _, _, _, get1, rfl, rfl, ?_, ?_, ?_, ?_⟩) | (with_reducible refine ⟨2, _, _, _, _, get2, rfl, rfl, ?_, ?_, ?_, ?_⟩) | (with_reducible refine ⟨3, _, _, _, _, get3, rfl, rfl, ?_, ?_, ?_, ?_⟩)); (kernel_rfl); (simp [Value.cells]); (rfl); (clear st; intro w st))); (try simp only [nsl, Value.cells, unB] at st); (try clear hc); have hc := st.facts; (try simp only [nfl, nft, Nat.reduceAdd] at hc))
            go_loopg [73] n (fun q i wr => ∃ (j : Nat), j ≤ n ∧ q = n - j ∧ i = .int .i64 (j : Int) ∧ Hid (((kids.take j).all fun x => x.strip.well) = true) ∧ Own (fun _ => False) (fun _ => True) W [oldI W, blkI b1 [.int .i64 op, .int .i64 0, .string ⟨o.toArray⟩, .string ⟨d.toArray⟩, .slice a n c]] wr)
            case atStart => exact ⟨0, by omega, by omega, rfl, Lib.hid (by simp), st⟩
            case round =>
              obtain ⟨j, hj, rfl, rfl, HG, st'⟩ := hrel
              clear st hc
              have st := st'
              clear st'
              by_cases hjn : j < n
              · obtain ⟨b, off, ha, hcell⟩ := (st.oldFl (i := 0) get0 HOK.out.fl).fm (by omega)
                have hjl : j < kids.length := by have := HN.out; omega
                have HT : Hid (kids.take (j + 1) = kids.take j ++ [kids[j]]) := Lib.hid (List.take_append_getElem hjl).symm
                have hok := HOK.out.kids _ (List.getElem_mem hjl)
                have hih := HI.out _ (List.getElem_mem hjl)
                have hgt := List.getElem?_eq_getElem hjl
                have HM : Hid (kids[j] ∈ kids) := Lib.hid (List.getElem_mem hjl)
                generalize kids[j] = x at *
                obtain ⟨m, hm⟩ : ∃ v, x.strip.well = v := ⟨_, rfl⟩
                have HC := Lib.hid (fun W' (hx : Ext W W') => hih W' (hok.ext hx))
                rw [hm] at HC
                have HX : Hid (x.strip.well = m) := Lib.hid hm
                clear hih hjl hok hm
                obtain ⟨xx, hxx⟩ : ∃ y, x = y := ⟨_, rfl⟩
                rw [hxx] at HT HX HM
                obtain ⟨op', k', ⟨o', d'⟩, a', n', c', kids'⟩ := x
                obtain ⟨r0, r1, r2, r3, r4⟩ := hcell j op' k' (o', d') a' n' c' kids' hgt
                unfold fmV S at HC
                simp only at HC
                clear hcell hgt hxx
                subst ha
                unfold S at r2 r3
                simp only at r2 r3
                (try simp only [nsl, Value.cells, unB] at st)
                (try clear hc); have hc := st.facts; (try simp only [nfl, nft, Nat.reduceAdd] at hc)
                go_wp2_with ((first
                      | ((with_reducible refine wl_box ?_ (fun K hK => ?_)); rfl; refine owp_box (o := ⟨some 1, _, _, _, _, _⟩) rfl st ?_; apply Exists.intro; refine ⟨?_, ?_⟩; (focus (go_simp; try rfl)); (clear st; intro b1 w hb st; clear hb))
                      | ((with_reducible refine wl_alloc ?_ (fun K hK => ?_)); rfl; refine owp_alloc (o := ⟨some 5, _, _, _, _, _⟩) rfl st ?_; apply Exists.intro; apply Exists.intro; refine ⟨?_, ?_⟩; (focus (first | (go_simp; done) | (go_simp; rfl))); (clear st; intro b5 w hb st; clear hb))
                      | ((with_reducible refine wl_store ?_ (fun K hK => ?_)); rfl; refine owp_store rfl st ?_; apply Exists.intro; apply Exists.intro; refine ⟨?_, ?_, ?_⟩; (focus (go_simp; try rfl)); (focus (go_simp; try rfl)); (first | (with_reducible refine ⟨0, _, _, _, _, get0, rfl, rfl, ?_, ?_, ?_, ?_⟩) | (with_reducible refine ⟨1, _, _, _, _, get1, rfl, rfl, ?_, ?_, ?_, ?_⟩) | (with_reducible refine ⟨2, _, _, _, _, get2, rfl, rfl, ?_, ?_, ?_, ?_⟩) | (with_reducible refine ⟨3, _, _, _, _, get3, rfl, rfl, ?_, ?_, ?_, ?_⟩)); (kernel_rfl); (simp [Value.cells]); (rfl); (clear st; intro w st))); (try simp only [nsl, Value.cells, unB] at st); (try clear hc); have hc := st.facts; (try simp only [nfl, nft, Nat.reduceAdd] at hc))
                clear r0 r1 r2 r3 r4
                refine (HC.out _ st.ext0).mono ?_
                rintro en w ⟨rfl, hx⟩
                replace st := st.ext hx
                clear hx
                cases m with
                | false =>
                  have H : Hid (v = false) := Lib.hid (by
                    rw [HW.out, HA.out, Bool.eq_false_iff]
                    intro q
                    have := List.all_eq_true.1 q xx HM.out
                    rw [HX.out] at this
                    cases this)
                  (try simp only [nsl, Value.cells, unB] at st)
                  (try clear hc); have hc := st.facts; (try simp only [nfl, nft, Nat.reduceAdd] at hc)
                  go_wp2_with fail
                  go_ret
                  exact ⟨by rw [H.out] <;> rfl, st.ext0⟩
                | true =>
                  have HG2 : Hid (((kids.take (j + 1)).all fun x => x.strip.well) = true) := Lib.hid (by rw [HT.out, List.all_append, HG.out]; simp [HX.out])
                  (try simp only [nsl, Value.cells, unB] at st)
                  (try clear hc); have hc := st.facts; (try simp only [nfl, nft, Nat.reduceAdd] at hc)
                  go_wp2_with fail
                  have st' := st.keep [0, 1] (by decide) (by simp)
                  go_roundg (n - (j + 1))
                  case measure => omega
                  case rel => exact ⟨j + 1, by omega, rfl, by go_num, HG2, by simpa [pick] using st'⟩
              · obtain rfl : n = j := by omega
                have H : Hid (v = true) := Lib.hid (by rw [HW.out, HA.out, ← HG.out, List.take_of_length_le (by have := HN.out; omega)])
                (try simp only [nsl, Value.cells, unB] at st)
                (try clear hc); have hc := st.facts; (try simp only [nfl, nft, Nat.reduceAdd] at hc)
                go_wp2_with fail
                go_ret
                exact ⟨by rw [H.out] <;> rfl, st.ext0⟩
          · have H : Hid (v = false) := Lib.hid (by rw [HV.out, HNR.out, if_neg o1, if_pos o23]; simp [k0])
            clear HV HNR HRo HA HE0 HI o23 o4
            (try simp only [nsl, Value.cells, unB] at st)
            (try clear hc); have hc := st.facts; (try simp only [nfl, nft, Nat.reduceAdd] at hc)
            go_wp2_with ((first
                  | ((with_reducible refine wl_box ?_ (fun K hK => ?_)); rfl; refine owp_box (o := ⟨some 1, _, _, _, _, _⟩) rfl st ?_; apply Exists.intro; refine ⟨?_, ?_⟩; (focus (go_simp; try rfl)); (clear st; intro b1 w hb st; clear hb))
                  | ((with_reducible refine wl_alloc ?_ (fun K hK => ?_)); rfl; refine owp_alloc (o := ⟨some 5, _, _, _, _, _⟩) rfl st ?_; apply Exists.intro; apply Exists.intro; refine ⟨?_, ?_⟩; (focus (first | (go_simp; done) | (go_simp; rfl))); (clear st; intro b5 w hb st; clear hb))
                  | ((with_reducible refine wl_store ?_ (fun K hK => ?_)); rfl; refine owp_store rfl st ?_; apply Exists.intro; apply Exists.intro; refine ⟨?_, ?_, ?_⟩; (focus (go_simp; try rfl)); (focus (go_simp; try rfl)); (first | (with_reducible refine ⟨0, _, _, _, _, get0, rfl, rfl, ?_, ?_, ?_, ?_⟩) | (with_reducible refine ⟨1, _, _, _, _, get1, rfl, rfl, ?_, ?_, ?_, ?_⟩) | (with_reducible refine ⟨2, _, _, _, _, get2, rfl, rfl, ?_, ?_, ?_, ?_⟩) | (with_reducible refine ⟨3, _, _, _, _, get3, rfl, rfl, ?_, ?_, ?_, ?_⟩)); (kernel_rfl); (simp [Value.cells]); (rfl); (clear st; intro w st))); (try simp only [nsl, Value.cells, unB] at st); (try clear hc); have hc := st.facts; (try simp only [nfl, nft, Nat.reduceAdd] at hc))
            go_ret
            exact ⟨by rw [H.out] <;> rfl, st.ext0⟩
      · have n8i : (8 : Int) < (n : Int) := by omega
        have H : Hid (v = false) := Lib.hid (by rw [HV.out, decide_eq_false n8]; simp)
        clear HV HNR HRo HA HE0 HI n8
        (try simp only [nsl, Value.cells, unB] at st)
        (try clear hc); have hc := st.facts; (try simp only [nfl, nft, Nat.reduceAdd] at hc)
        go_wp2_with ((first
              | ((with_reducible refine wl_box ?_ (fun K hK => ?_)); rfl; refine owp_box (o := ⟨some 1, _, _, _, _, _⟩) rfl st ?_; apply Exists.intro; refine ⟨?_, ?_⟩; (focus (go_simp; try rfl)); (clear st; intro b1 w hb st; clear hb))
              | ((with_reducible refine wl_alloc ?_ (fun K hK => ?_)); rfl; refine owp_alloc (o := ⟨some 5, _, _, _, _, _⟩) rfl st ?_; apply Exists.intro; apply Exists.intro; refine ⟨?_, ?_⟩; (focus (first | (go_simp; done) | (go_simp; rfl))); (clear st; intro b5 w hb st; clear hb))
              | ((with_reducible refine wl_store ?_ (fun K hK => ?_)); rfl; refine owp_store rfl st ?_; apply Exists.intro; apply Exists.intro; refine ⟨?_, ?_, ?_⟩; (focus (go_simp; try rfl)); (focus (go_simp; try rfl)); (first | (with_reducible refine ⟨0, _, _, _, _, get0, rfl, rfl, ?_, ?_, ?_, ?_⟩) | (with_reducible refine ⟨1, _, _, _, _, get1, rfl, rfl, ?_, ?_, ?_, ?_⟩) | (with_reducible refine ⟨2, _, _, _, _, get2, rfl, rfl, ?_, ?_, ?_, ?_⟩) | (with_reducible refine ⟨3, _, _, _, _, get3, rfl, rfl, ?_, ?_, ?_, ?_⟩)); (kernel_rfl); (simp [Value.cells]); (rfl); (clear st; intro w st))); (try simp only [nsl, Value.cells, unB] at st); (try clear hc); have hc := st.facts; (try simp only [nfl, nft, Nat.reduceAdd] at hc))
        go_ret
        exact ⟨by rw [H.out] <;> rfl, st.ext0⟩
set_option maxRecDepth 100000 in
set_option maxHeartbeats 2000000 in
theorem refRight11_any (f : Fm) (W : World) (h : FmOk W f) (hs : f.strip.nodes ≤ 1000000000) (hl : FoL 100000 f.strip) :
    Calls Try.prog 51 #[fmV f] W fun e w' => e = .returned (.bool (foR f.strip)) ∧ Ext W w' := by
  have HN := Lib.hid (fun W' (hx : Ext W W') => refNodes_any f W' (h.ext hx) hs)
  have HD := Lib.hid (fun W' (hx : Ext W W') => refDeep_any f W' (h.ext hx) hs)
  have HW := Lib.hid (fun W' (hx : Ext W W') => refWell_any f W' (h.ext hx) hl)
  have HV : Hid (foR f.strip = (decide (f.strip.nodes ≤ 64) && decide (f.strip.deep ≤ 6) && f.strip.well)) := Lib.hid rfl
  obtain ⟨op, k, ⟨o, d⟩, a, n, c, kids⟩ := f
  generalize foR (Fm.mk op k (o, d) a n c kids).strip = v at *
  generalize (Fm.mk op k (o, d) a n c kids).strip.nodes = N1 at *
  generalize (Fm.mk op k (o, d) a n c kids).strip.deep = D1 at *
  generalize (Fm.mk op k (o, d) a n c kids).strip.well = wv at *
  clear h hs hl
  have st := Own.startOld W
  unfold fmV S at HN HD HW ⊢
  simp only at HN HD HW ⊢
  (try simp only [nsl, Value.cells, unB] at st)
  (try clear hc); have hc := st.facts; (try simp only [nfl, nft, Nat.reduceAdd] at hc)
  go_enter Try.func51, Try.ntmps51
  go_wp2_with ((((with_reducible refine wl_box ?_ (fun K hK => ?_)); rfl; refine owp_box (o := ⟨some 1, _, _, _, _, _⟩) rfl st ?_; apply Exists.intro; refine ⟨?_, ?_⟩; (focus (go_simp; try rfl)); (clear st; intro b1 w hb st; clear hb))); (try simp only [nsl, Value.cells, unB] at st); (try clear hc); have hc := st.facts; (try simp only [nfl, nft, Nat.reduceAdd] at hc))
  refine (HN.out _ st.ext0).mono ?_
  rintro en w ⟨rfl, hx⟩
  replace st := st.ext hx
  clear hx
  by_cases h1 : N1 ≤ 64
  · have h1i : (N1 : Int) ≤ 64 := by omega
    (try simp only [nsl, Value.cells, unB] at st)
    (try clear hc); have hc := st.facts; (try simp only [nfl, nft, Nat.reduceAdd] at hc)
    go_wp2_with ((((with_reducible refine wl_box ?_ (fun K hK => ?_)); rfl; refine owp_box (o := ⟨some 1, _, _, _, _, _⟩) rfl st ?_; apply Exists.intro; refine ⟨?_, ?_⟩; (focus (go_simp; try rfl)); (clear st; intro b1 w hb st; clear hb))); (try simp only [nsl, Value.cells, unB] at st); (try clear hc); have hc := st.facts; (try simp only [nfl, nft, Nat.reduceAdd] at hc))
    refine (HD.out _ st.ext0).mono ?_
    rintro en w ⟨rfl, hx⟩
    replace st := st.ext hx
    clear hx
    by_cases h2 : D1 ≤ 6
    · have h2i : (D1 : Int) ≤ 6 := by omega
      have H : Hid (v = wv) := Lib.hid (by rw [HV.out]; simp [h1, h2])
      (try simp only [nsl, Value.cells, unB] at st)
      (try clear hc); have hc := st.facts; (try simp only [nfl, nft, Nat.reduceAdd] at hc)
      go_wp2_with ((((with_reducible refine wl_box ?_ (fun K hK => ?_)); rfl; refine owp_box (o := ⟨some 1, _, _, _, _, _⟩) rfl st ?_; apply Exists.intro; refine ⟨?_, ?_⟩; (focus (go_simp; try rfl)); (clear st; intro b1 w hb st; clear hb))); (try simp only [nsl, Value.cells, unB] at st); (try clear hc); have hc := st.facts; (try simp only [nfl, nft, Nat.reduceAdd] at hc))
      refine (HW.out _ st.ext0).mono ?_
      rintro en w ⟨rfl, hx⟩
      replace st := st.ext hx
      clear hx
      (try simp only [nsl, Value.cells, unB] at st)
      (try clear hc); have hc := st.facts; (try simp only [nfl, nft, Nat.reduceAdd] at hc)
      go_wp2_with ((((with_reducible refine wl_box ?_ (fun K hK => ?_)); rfl; refine owp_box (o := ⟨some 1, _, _, _, _, _⟩) rfl st ?_; apply Exists.intro; refine ⟨?_, ?_⟩; (focus (go_simp; try rfl)); (clear st; intro b1 w hb st; clear hb))); (try simp only [nsl, Value.cells, unB] at st); (try clear hc); have hc := st.facts; (try simp only [nfl, nft, Nat.reduceAdd] at hc))
      go_ret
      exact ⟨by rw [H.out] <;> rfl, st.ext0⟩
    · have h2i : ¬ (D1 : Int) ≤ 6 := by omega
      have H : Hid (v = false) := Lib.hid (by rw [HV.out]; simp [h2])
      clear h2
      (try simp only [nsl, Value.cells, unB] at st)
      (try clear hc); have hc := st.facts; (try simp only [nfl, nft, Nat.reduceAdd] at hc)
      go_wp2_with ((((with_reducible refine wl_box ?_ (fun K hK => ?_)); rfl; refine owp_box (o := ⟨some 1, _, _, _, _, _⟩) rfl st ?_; apply Exists.intro; refine ⟨?_, ?_⟩; (focus (go_simp; try rfl)); (clear st; intro b1 w hb st; clear hb))); (try simp only [nsl, Value.cells, unB] at st); (try clear hc); have hc := st.facts; (try simp only [nfl, nft, Nat.reduceAdd] at hc))
      go_ret
      exact ⟨by rw [H.out] <;> rfl, st.ext0⟩
  · have h1i : ¬ (N1 : Int) ≤ 64 := by omega
    have H : Hid (v = false) := Lib.hid (by rw [HV.out]; simp [h1])
    clear h1
    (try simp only [nsl, Value.cells, unB] at st)
    (try clear hc); have hc := st.facts; (try simp only [nfl, nft, Nat.reduceAdd] at hc)
    go_wp2_with ((((with_reducible refine wl_box ?_ (fun K hK => ?_)); rfl; refine owp_box (o := ⟨some 1, _, _, _, _, _⟩) rfl st ?_; apply Exists.intro; refine ⟨?_, ?_⟩; (focus (go_simp; try rfl)); (clear st; intro b1 w hb st; clear hb))); (try simp only [nsl, Value.cells, unB] at st); (try clear hc); have hc := st.facts; (try simp only [nfl, nft, Nat.reduceAdd] at hc))
    go_ret
    exact ⟨by rw [H.out] <;> rfl, st.ext0⟩
end Go.Proofs.Ythjaopojlhdjpaa
