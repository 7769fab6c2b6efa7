/- Strings as bytes, numbers as signs. -/
import Derived.Test.YtjfjigknkhgkdaaTvKd
import Derived.Lib.ConvBytes
namespace Go.Tv
open Go Go.RowKit
section
variable {P : Program} {Bw : Nat → Prop} {w0 : Base} {ρ : Nat → Option Value} {φ : Nat → Nat → Prop} {h : Nat → Option Obj} {w : World} {new : Nat}
theorem Mem.grow (m : Mem Bw w0 ρ φ h w) {w' : World} (hg : w.grownBy w' none) : Mem Bw w0 ρ φ h w' ∧ (∀ β a v, Fr (own φ h) Bw w β a v → Fr (own φ h) Bw w' β a v) := by
  have hF : ∀ β a v, Fr (own φ h) Bw w β a v → Fr (own φ h) Bw w' β a v := fun β a v hh =>
    Fr.evo (fun k hk _ => hg.block k hk (by intro e; cases e)) (fun k hk => .inl hk) β a v hh
  refine ⟨⟨fun id o hid => ?_, fun id o k h1 h2 h3 => Nat.lt_of_lt_of_le (m.lt id o k h1 h2 h3) hg.size, m.dj, m.bw, m.ow, m.kp.grown hg (fun k e => by cases e), m.pin⟩, hF⟩
  obtain ⟨u, q1, q2⟩ := m.ob id o hid
  exact ⟨u, q1, OR.mono hF (fun _ _ h => h) (fun _ h => h) (fun hl k hk => hg.block k (m.lt id o k hid hl hk) (by intro e; cases e)) q2⟩
theorem bytes_grown (w : World) (e : TypeId) (s : ByteArray) : w.grownBy (Lib.bytesWorld w e s) none :=
  ⟨rfl, rfl, rfl, by rw [Lib.bytesWorld_size]; omega, fun k hk _ => Lib.bytesWorld_at_old w e s k hk⟩
theorem good_bytes (m : Mem Bw w0 ρ φ h w) {o : Oper} {a : Act} {st dt e : TypeId} {si : TI} (hs : TIok P st si) (hd : P.underlying dt = some (.slice e)) (he : P.underlying e = some (.int .u8)) {xo : Operand} (ho : o.op = .convert st dt xo)
    {β : Bool} {l : List UInt8} (hx : V (Fr (own φ h) Bw w) ρ (.p β .str l) (a.eval xo)) : Good P o a w (Post Bw w0 ρ φ h w new (.p false (.slice (.int .u8)) (numsOf l)) []) := by
  obtain ⟨ds, h1, _⟩ := hs.hu
  have hrun := Lib.run_convert_string_bytes (P := P) w st dt e ⟨l.toArray⟩ h1 hd he
  obtain ⟨m', hF⟩ := m.grow (bytes_grown w e ⟨l.toArray⟩)
  have hsz : (⟨l.toArray⟩ : ByteArray).size = l.length := by simp [ByteArray.size]
  refine Good.of_run (v := _) (w' := _) (by simp only [execOp, ho, V_str hx, Sem.run_bind, hrun, Result.andThen_ok]; rfl) ⟨ρ, φ, m', hF, fun _ _ h => h, fun _ _ h => .inl h, ?_⟩
  simp only [V, Vcells]
  refine ⟨rfl, _, _, _, rfl, ⟨by rw [hsz]; simp [numsOf], grownCap_ge _ _ _ _⟩, fun i hi => ⟨_, rfl, ?_⟩⟩
  have hi' : i < l.length := by simpa [numsOf] using hi
  refine ⟨fun hh => ?_, fun _ hb => ?_, ?_⟩
  · have hlt := m.own_lt hh
    simp only [Addr.add] at hlt
    split at hlt <;> simp at hlt
  · have h2 := w0.lt _ (m.bw _ hb)
    have h3 := m.kp.size
    simp only [Addr.add] at h2
    split at h2 <;> simp at h2 <;> omega
  · have := Lib.bytesWorld_cell w e ⟨l.toArray⟩ i (by rw [hsz]; exact hi')
    have e1 : (⟨w.heap.size, 0, none⟩ : Addr).add (i * Ty.size (.int .u8) + 0) = ⟨w.heap.size, i, none⟩ := by
      rw [add_mk]
      simp [Ty.size]
    rw [e1, this]
    simp [numsOf, hi']
theorem run_slice3 {F : Bool → Addr → Value → Prop} {t e : TypeId} {ti te : TI} (ht : TIok P t ti) (hk : ti.k = .sl e) (hte : TIok P e te) {a : Act} {ad : Option Addr} {len cap : Nat} {lo : Option Operand} {hi mx : Operand} {l : Option Int} {r q : Int} (hl : optV F ρ a lo l)
    {β : Bool} {k : IntKind} (hr : V F ρ (.p β (.int k) r) (a.eval hi)) {β' : Bool} {k' : IntKind} (hq : V F ρ (.p β' (.int k') q) (a.eval mx)) (h0 : 0 ≤ l.getD 0) (h1 : l.getD 0 ≤ r) (h2 : r ≤ q) (h3 : q ≤ len) (h4 : len ≤ cap) :
    (Instr.sliceAt t (.slice ad len cap) (lo.map a.eval) (some (a.eval hi)) (some (a.eval mx))).run P w =
      .ok (.slice (if q.toNat = (l.getD 0).toNat then ad else ad.map (·.add ((l.getD 0).toNat * te.size))) (r.toNat - (l.getD 0).toNat) (q.toNat - (l.getD 0).toNat)) w := by
  have hu := run_slice_elem ht hk
  have b1 : (Instr.sliceBound (.int k' q) cap .slice3Acap).run P w = .ok q.toNat w := run_sliceBound (by omega) (by omega)
  have b2 : (Instr.sliceBound (.int k r) q.toNat .slice3B).run P w = .ok r.toNat w := run_sliceBound (by omega) (by omega)
  cases lo with
  | none =>
    cases l with
    | some _ => exact hl.elim
    | none => simp [Instr.sliceAt, Instr.slice, Instr.sliceBounds, run_underlying hu, V_int hr, V_int hq, b1, b2, run_sizeOf hte]
  | some x =>
    cases l with
    | none => exact hl.elim
    | some i =>
      obtain ⟨β2, k2, hv⟩ := hl
      simp only [Option.getD_some] at h0 h1
      have b3 : (Instr.sliceBound (.int k2 i) r.toNat .slice3C).run P w = .ok i.toNat w := run_sliceBound h0 (by omega)
      simp [Instr.sliceAt, Instr.slice, Instr.sliceBounds, run_underlying hu, V_int hr, V_int hq, V_int hv, b1, b2, b3, run_sizeOf hte]
theorem V_part3 {F : Bool → Addr → Value → Prop} {ρ' : Nat → Option Value} {A : Ty} {xs : List A.den} {β : Bool} {ad : Option Addr} {len cap : Nat} (hv : V F ρ' (.p β (.slice A) xs) (.slice ad len cap)) {l r q size : Nat} (hs : size = A.size) (h1 : l ≤ r) (h2 : r ≤ q) (h3 : q ≤ len) :
    V F ρ' (.p β (.slice A) ((xs.take r).drop l)) (.slice (if q = l then ad else ad.map (·.add (l * size))) (r - l) (q - l)) := by
  subst hs
  simp only [V, Vcells] at hv ⊢
  obtain ⟨_, ad', len', cap', e, ⟨hl, hc⟩, hx⟩ := hv
  simp only [Value.slice.injEq] at e
  obtain ⟨rfl, rfl, rfl⟩ := e
  refine ⟨rfl, _, _, _, rfl, ⟨by simp only [List.length_drop, List.length_take]; omega, by omega⟩, fun i hi => ?_⟩
  simp only [List.length_drop, List.length_take] at hi
  obtain ⟨b, q1, q2⟩ := hx (l + i) (by omega)
  subst q1
  refine ⟨b.add (l * A.size), by rw [if_neg (by omega)]; rfl, ?_⟩
  have e : ((xs.take r).drop l)[i]'(by simp only [List.length_drop, List.length_take]; omega) = xs[l + i] := by simp
  rw [e]
  refine Vcells.mono (fun _ _ h => h) (fun k v hk => ?_) q2
  rw [add_add]
  rwa [Nat.add_mul, Nat.add_assoc] at hk
theorem good_slice3 (m : Mem Bw w0 ρ φ h w) {o : Oper} {a : Act} {t e : TypeId} {ti te : TI} (ht : TIok P t ti) (hk : ti.k = .sl e) (hte : TIok P e te) {A : Ty} (hT : te.T = some A) {xo : Operand} {lo : Option Operand} {hi mx : Operand} (ho : o.op = .slice t xo lo (some hi) (some mx))
    {β : Bool} {xs : List A.den} (hx : V (Fr (own φ h) Bw w) ρ (.p β (.slice A) xs) (a.eval xo)) {l : Option Int} {r q : Int} (hl : optV (Fr (own φ h) Bw w) ρ a lo l) {β1 : Bool} {k1 : IntKind} (hr : V (Fr (own φ h) Bw w) ρ (.p β1 (.int k1) r) (a.eval hi))
    {β2 : Bool} {k2 : IntKind} (hq : V (Fr (own φ h) Bw w) ρ (.p β2 (.int k2) q) (a.eval mx)) (h0 : 0 ≤ l.getD 0) (h1 : l.getD 0 ≤ r) (h2 : r ≤ q) (h3 : q ≤ xs.length) :
    Good P o a w (Post Bw w0 ρ φ h w new (.p β (.slice A) ((xs.take r.toNat).drop (l.getD 0).toNat)) []) := by
  obtain ⟨ad, cap, he, hc⟩ := V_slice_form hx
  obtain ⟨hT1, _, _⟩ := hte.hT A hT
  have hrun := run_slice3 (P := P) (w := w) ht hk hte (ad := ad) (cap := cap) hl hr hq h0 h1 h2 h3 hc
  rw [he] at hx
  refine Good.of_run (v := _) (w' := w) (by simp only [execOp, ho, he, Option.map_some, hrun, Sem.run_bind, Result.andThen_ok]; rfl) (Post.pure m (V_part3 hx hT1.symm (by omega) (by omega) (by omega)))
def utf8Of (n : Int) : List UInt8 := (Utf8.encode n).data.toList
theorem good_sign (m : Mem Bw w0 ρ φ h w) {o : Oper} {a : Act} {st dt : TypeId} {si : TI} (hs : TIok P st si) (hd : P.underlying dt = some .string) {xo : Operand} (ho : o.op = .convert st dt xo)
    {β : Bool} {k : IntKind} {n : Int} (hx : V (Fr (own φ h) Bw w) ρ (.p β (.int k) n) (a.eval xo)) : Good P o a w (Post Bw w0 ρ φ h w new (.p false .str (utf8Of n)) []) := by
  obtain ⟨ds, h1, _⟩ := hs.hu
  refine Good.of_run (v := .string (Utf8.encode n)) (w' := w) ?_ (Post.pure m ?_)
  · simp only [execOp, ho, V_int hx, convert, Sem.run_bind, run_underlying h1, run_underlying hd, Result.andThen_ok]
    cases ds <;> rfl
  · simp only [V, Vcells]
    exact ⟨rfl, rfl⟩
end
end Go.Tv
