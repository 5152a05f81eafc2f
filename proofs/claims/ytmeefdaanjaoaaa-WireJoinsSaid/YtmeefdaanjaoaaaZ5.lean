/- What the program's Decode answers: the messages of the plain model, or where, and what, is wrong. -/
import Derived.Test.YtmeefdaanjaoaaaZ4
namespace Go.Proofs.Ytmeefdaanjaoaaa.Z
open Go.RowKit Go.Proofs.YtmeefdaanjaoaaaW.PrintWords Go.Proofs.YtmeefdaanjaoaaaW.PrintLast Go.Proofs.Ytmeefdaanjaoaaa.M
set_option linter.unusedVariables false

/-- What is left of a string's bytes, and where it begins. -/
def Suf (s : ByteArray) (r : List Int) : Prop := ∃ p, bytesOf s = p ++ r
def pos (s : ByteArray) (r : List Int) : Int := s.size - r.length
theorem Suf.all (s : ByteArray) : Suf s (bytesOf s) := ⟨[], rfl⟩
theorem Suf.of {s : ByteArray} {p r : List Int} (h : Suf s (p ++ r)) : Suf s r := by
  obtain ⟨q, hq⟩ := h
  exact ⟨q ++ p, by rw [hq, List.append_assoc]⟩
theorem Suf.tail {s : ByteArray} {c : Int} {r : List Int} (h : Suf s (c :: r)) : Suf s r := Suf.of (p := [c]) h
theorem Suf.len {s : ByteArray} {r : List Int} (h : Suf s r) : (r.length : Int) ≤ s.size := by
  obtain ⟨p, hp⟩ := h
  have := congrArg List.length hp
  rw [bytesOf_length, List.length_append] at this
  omega
theorem Suf.bytes {s : ByteArray} {r : List Int} (h : Suf s r) : Bytes r := by
  obtain ⟨p, hp⟩ := h
  have := bytesOf_bytes s
  rw [hp] at this
  exact this.right
theorem pos_all (s : ByteArray) : pos s (bytesOf s) = 0 := by unfold pos; rw [bytesOf_length]; omega
theorem pos_nonneg {s : ByteArray} {r : List Int} (h : Suf s r) : 0 ≤ pos s r := by have := h.len; unfold pos; omega
theorem pos_le (s : ByteArray) (r : List Int) : pos s r ≤ s.size := by unfold pos; omega
theorem pos_drop {s : ByteArray} {r : List Int} (h : Suf s r) : (bytesOf s).drop (pos s r).toNat = r := by
  have hl := h.len
  obtain ⟨p, hp⟩ := h
  have := congrArg List.length hp
  rw [bytesOf_length, List.length_append] at this
  have e : (pos s r).toNat = p.length := by unfold pos; omega
  rw [e, hp, List.drop_left]
theorem pos_cons {s : ByteArray} {c : Int} {r : List Int} : pos s r = pos s (c :: r) + 1 := by unfold pos; rw [List.length_cons]; omega
theorem pos_lt {s : ByteArray} {c : Int} {r : List Int} : pos s (c :: r) < s.size := by unfold pos; rw [List.length_cons]; omega
theorem pos_nil (s : ByteArray) : pos s [] = s.size := by unfold pos; simp
theorem bt_pos {s : ByteArray} {c : Int} {r : List Int} (h : Suf s (c :: r)) : bt s (pos s (c :: r)) = c := by
  have h1 := drop_at s (pos s (c :: r)) (pos_nonneg h) pos_lt
  rw [pos_drop h] at h1
  injection h1 with h1 _
  exact h1.symm
theorem vlq_suf {i : Nat} {n m : Int} {s : ByteArray} {r r' : List Int} (h : Suf s r) (hv : vlq i n r = .ok (m, r')) : Suf s r' := by
  obtain ⟨p, rfl, _⟩ := vlq_ok h.bytes hv
  exact h.of
theorem dat_suf {bs r' : List Int} {s : ByteArray} {r : List Int} (h : Suf s r) (hv : dat r = .ok (bs, r')) : Suf s r' := by
  obtain ⟨_, _, p, rfl, _⟩ := dat_ok h.bytes hv
  exact h.of.of
theorem low_suf {a : Int} {r' : List Int} {s : ByteArray} {r : List Int} (h : Suf s r) (hv : low r = .ok (a, r')) : Suf s r' := by
  obtain ⟨rfl, _⟩ := low_ok hv
  exact h.tail

section
variable {s : ByteArray} {r : List Int} {last : Int} {k : Nat}

theorem fail0 (at_ e : Int) : wire_reader_fail.f s at_ last 0 e = some (s, at_, last, e) := by unfold wire_reader_fail.f; rw [if_pos rfl]

theorem number_r (hk : 7 ≤ k) (hs : s.size ≤ 140737488351232) (h : Suf s r) : wire_reader_number.f k s (pos s r) last 0 = some (match vlq 4 0 r with
    | .error e => (0, s, pos s r, last, e)
    | .ok (n, r') => (n, s, pos s r', last, 0)) := by
  unfold wire_reader_number.f
  rw [if_pos rfl, readVlq_f s _ k hk (pos_nonneg h) (pos_le s r) hs, pos_drop h]
  unfold vlqAns
  cases hv : vlq 4 0 r with
  | error e =>
    rw [Option.bind_some]
    dsimp only
    rcases vlq_e hv with rfl | rfl
    · rw [if_neg (by decide), fail0]; rfl
    · rw [if_neg (by decide), fail0]; rfl
  | ok x =>
    obtain ⟨n, r'⟩ := x
    rw [Option.bind_some]
    dsimp only
    rw [if_pos rfl]
    rfl
theorem number_e {e at_ : Int} (he : e ≠ 0) : wire_reader_number.f k s at_ last e = some (0, s, at_, last, e) := by
  unfold wire_reader_number.f
  rw [if_neg he]

theorem data_r (hs : s.size ≤ 140737488351232) (h : Suf s r) : wire_reader_data.f s (pos s r) last 0 = some (match low r with
    | .error e => (0, s, pos s r, last, e)
    | .ok (a, r') => (a, s, pos s r', last, 0)) := by
  unfold wire_reader_data.f
  rw [if_pos rfl]
  cases r with
  | nil => rw [pos_nil, if_pos (by omega), fail0]; rfl
  | cons c r =>
    have hp := pos_lt (s := s) (c := c) (r := r)
    have hp0 := pos_nonneg h
    have hc := h.bytes.head
    rw [if_neg (by omega), if_pos hp0, if_pos hp, bt_pos h, w64 (by omega) (by omega)]
    by_cases c1 : c ≥ 128
    · rw [if_pos c1, fail0, low, if_pos c1]; rfl
    · rw [if_neg c1, low, if_neg c1, w64 (by omega) (by omega), ← pos_cons]
theorem data_e {e at_ : Int} (he : e ≠ 0) : wire_reader_data.f s at_ last e = some (0, s, at_, last, e) := by
  unfold wire_reader_data.f
  rw [if_neg he]

theorem bytes_r (hk : 7 ≤ k) (hs : s.size ≤ 140737488351232) (h : Suf s r) : match dat r with
    | .error e => ∃ a, wire_reader_bytes.f k s (pos s r) last 0 = some (⟨#[]⟩, s, a, last, e)
    | .ok (bs, r') => wire_reader_bytes.f k s (pos s r) last 0 = some (strOfNums bs, s, pos s r', last, 0) := by
  unfold wire_reader_bytes.f
  rw [number_r hk hs h]
  unfold dat
  cases hv : vlq 4 0 r with
  | error e =>
    rw [Option.bind_some]
    dsimp only
    have he : e ≠ 0 := by rcases vlq_e hv with rfl | rfl <;> decide
    rw [if_neg he]
    exact ⟨_, rfl⟩
  | ok x =>
    obtain ⟨n, r1⟩ := x
    obtain ⟨h0, h1, _⟩ := vlq4_ok h.bytes hv
    have h2 := vlq_suf h hv
    have hp0 := pos_nonneg h2
    have hpl := pos_le s r1
    have hpe : pos s r1 = s.size - r1.length := rfl
    rw [Option.bind_some]
    dsimp only
    rw [if_pos rfl]
    by_cases c1 : n > 100000
    · rw [if_pos c1, if_pos c1, fail0]
      exact ⟨_, rfl⟩
    · rw [if_neg c1, if_neg c1, w64 (by omega) (by omega)]
      by_cases c2 : n > r1.length
      · rw [if_pos c2, if_pos (by omega), fail0]
        exact ⟨_, rfl⟩
      · rw [if_neg c2, if_neg (by omega), if_pos (by omega), if_pos (by omega), if_pos (by omega)]
        dsimp only
        have e1 : s.extract (pos s r1).toNat (pos s r1 + n).toNat = strOfNums (r1.take n.toNat) := by
          apply bytesOf_inj
          rw [bytesOf_extract, pos_drop h2, bytesOf_str (h2.bytes.take _)]
          congr 1
          omega
        have e2 : pos s r1 + n = pos s (r1.drop n.toNat) := by
          unfold pos
          rw [List.length_drop]
          omega
        rw [e1, e2]
theorem bytes_e {e at_ : Int} (he : e ≠ 0) : wire_reader_bytes.f k s at_ last e = some (⟨#[]⟩, s, at_, last, e) := by
  unfold wire_reader_bytes.f
  rw [number_e he, Option.bind_some]
  dsimp only
  rw [if_neg he]

theorem status_e {e at_ : Int} (he : e ≠ 0) : wire_reader_status.f s at_ last e = some (0, s, at_, last, e) := by
  unfold wire_reader_status.f
  rw [if_neg he]
theorem status_nil : wire_reader_status.f s (pos s []) last 0 = some (0, s, pos s [], last, 152) := by
  unfold wire_reader_status.f
  rw [if_pos rfl, pos_nil, if_pos (by omega), fail0]; rfl
theorem status_lo {c : Int} {r1 : List Int} (hs : s.size ≤ 140737488351232) (h : Suf s (c :: r1)) (hc : c < 128) :
    wire_reader_status.f s (pos s (c :: r1)) last 0 = if last = 0 then some (last, s, pos s (c :: r1), last, 151) else some (last, s, pos s (c :: r1), last, 0) := by
  have hp := pos_lt (s := s) (c := c) (r := r1)
  have hp0 := pos_nonneg h
  have hcb := h.bytes.head
  unfold wire_reader_status.f
  rw [if_pos rfl, if_neg (by omega), if_pos hp0, if_pos hp, bt_pos h, w64 (by omega) (by omega), if_pos hc, fail0]
  rfl
theorem status_hi {c : Int} {r1 : List Int} (hs : s.size ≤ 140737488351232) (h : Suf s (c :: r1)) (hc : ¬ c < 128) :
    wire_reader_status.f s (pos s (c :: r1)) last 0 = some (c, s, pos s r1, last, if c > 240 ∧ c ≠ 247 ∧ c ≠ 255 then 151 else 0) := by
  have hp := pos_lt (s := s) (c := c) (r := r1)
  have hp0 := pos_nonneg h
  have hcb := h.bytes.head
  unfold wire_reader_status.f
  rw [if_pos rfl, if_neg (by omega), if_pos hp0, if_pos hp, bt_pos h, w64 (by omega) (by omega), if_neg hc, fail0, w64 (by omega) (by omega), ← pos_cons]
  by_cases c1 : c > 240
  · rw [if_pos c1]
    by_cases c2 : c = 247
    · rw [if_pos c2, if_neg (by omega)]
    · rw [if_neg c2]
      by_cases c3 : c = 255
      · rw [if_pos c3, if_neg (by omega)]
      · rw [if_neg c3, if_pos ⟨c1, c2, c3⟩, Option.bind_some]
        dsimp only
        rw [w64 (by omega) (by omega), ← pos_cons]
  · rw [if_neg c1, if_neg (by omega)]

/-- What is behind the number and the status byte. -/
def rest (k : Nat) (d c : Int) (s : ByteArray) (a last e : Int) : Option (Int × Int × Int × Int × Int × ByteArray × ByteArray × Int × Int × Int) :=
  if c = 255 then ((wire_reader_data.f s a 0 e).bind fun bt216 => ((wire_reader_bytes.f k bt216.2.1 bt216.2.2.1 bt216.2.2.2.1 bt216.2.2.2.2).bind fun bt221 => (some (d, 16, 0, bt216.1, 0, bt221.1, bt221.2.1, bt221.2.2.1, bt221.2.2.2.1, bt221.2.2.2.2))))
  else (if c ≥ 240 then ((wire_reader_bytes.f k s a 0 e).bind fun bt226 => (some (d, 15, 0, c, 0, bt226.1, bt226.2.1, bt226.2.2.1, bt226.2.2.2.1, bt226.2.2.2.2)))
  else ((wire_reader_data.f s a c e).bind fun bt231 => ((wire_one.f (wrap64 (Int.tdiv c 16))).bind fun t236 => (if t236 = true then (some (d, wrap64 (Int.tdiv c 16), Int.tmod c 16, bt231.1, 0, (⟨#[]⟩ : ByteArray), bt231.2.1, bt231.2.2.1, bt231.2.2.2.1, bt231.2.2.2.2)) else ((wire_reader_data.f bt231.2.1 bt231.2.2.1 bt231.2.2.2.1 bt231.2.2.2.2).bind fun bt237 => (some (d, wrap64 (Int.tdiv c 16), Int.tmod c 16, bt231.1, bt237.1, (⟨#[]⟩ : ByteArray), bt237.2.1, bt237.2.2.1, bt237.2.2.2.1, bt237.2.2.2.2)))))))
theorem message_rest (a last e : Int) : wire_reader_message.f k s a last e = (wire_reader_number.f k s a last e).bind fun x => (wire_reader_status.f x.2.1 x.2.2.1 x.2.2.2.1 x.2.2.2.2).bind fun y => rest k x.1 y.1 y.2.1 y.2.2.1 y.2.2.2.1 y.2.2.2.2 := rfl

/-- Once something is wrong it stays so. -/
theorem rest_e {d c a e : Int} (he : e ≠ 0) : ∃ t, rest k d c s a last e = some t ∧ t.2.2.2.2.2.2.2.2.2 = e := by
  unfold rest
  rw [data_e he, data_e he, bytes_e he, one_f]
  simp only [Option.bind_some]
  rw [bytes_e he, data_e he]
  simp only [Option.bind_some]
  by_cases c1 : c = 255
  · rw [if_pos c1]; exact ⟨_, rfl, rfl⟩
  · rw [if_neg c1]
    by_cases c2 : c ≥ 240
    · rw [if_pos c2]; exact ⟨_, rfl, rfl⟩
    · rw [if_neg c2]
      split
      · exact ⟨_, rfl, rfl⟩
      · exact ⟨_, rfl, rfl⟩
theorem low_e {e : Int} (h : low r = .error e) : e = 151 ∨ e = 152 := by
  cases r with
  | nil => cases h; exact .inr rfl
  | cons c r =>
    by_cases c1 : c ≥ 128
    · rw [low, if_pos c1] at h; cases h; exact .inl rfl
    · rw [low, if_neg c1] at h; cases h
theorem dat_e {e : Int} (h : dat r = .error e) : e = 150 ∨ e = 151 ∨ e = 152 := by
  unfold dat at h
  cases hv : vlq 4 0 r with
  | error e' =>
    rw [hv] at h; injection h with h; subst h
    rcases vlq_e hv with rfl | rfl
    · exact .inl rfl
    · exact .inr (.inr rfl)
  | ok x =>
    obtain ⟨n, r1⟩ := x
    rw [hv] at h
    dsimp only at h
    by_cases c1 : n > 100000
    · rw [if_pos c1] at h; cases h; exact .inr (.inl rfl)
    · rw [if_neg c1] at h
      by_cases c2 : n > r1.length
      · rw [if_pos c2] at h; cases h; exact .inr (.inr rfl)
      · rw [if_neg c2] at h; cases h

/-- What is told of a message. -/
def Told (x : Except Int (Msg × Int × List Int)) (s : ByteArray) (o : Option (Int × Int × Int × Int × Int × ByteArray × ByteArray × Int × Int × Int)) : Prop :=
  match x with
  | .error e => e ≠ 0 ∧ ∃ t, o = some t ∧ t.2.2.2.2.2.2.2.2.2 = e
  | .ok (m, l', r') => Suf s r' ∧ o = some (m.f0, m.f1, m.f2, m.f3, m.f4, m.f5, s, pos s r', l', 0)

theorem rest_r {d c : Int} (hk : 7 ≤ k) (hs : s.size ≤ 140737488351232) (h : Suf s r) (h1 : 128 ≤ c) (h2 : c ≤ 255) : Told (body d c r) s (rest k d c s (pos s r) last 0) := by
  unfold rest
  by_cases c1 : c = 255
  · subst c1
    rw [if_pos rfl, body_255, data_r hs h, Option.bind_some]
    cases hl : low r with
    | error e =>
      dsimp only
      have he : e ≠ 0 := by rcases low_e hl with rfl | rfl <;> decide
      rw [bytes_e he]
      exact ⟨he, _, rfl, rfl⟩
    | ok x =>
      obtain ⟨a, r1⟩ := x
      dsimp only
      have hb := bytes_r (k := k) (last := 0) hk hs (low_suf h hl)
      cases hd : dat r1 with
      | error e =>
        rw [hd] at hb
        obtain ⟨q, hb⟩ := hb
        rw [hb]
        refine ⟨by rcases dat_e hd with rfl | rfl | rfl <;> decide, _, rfl, rfl⟩
      | ok y =>
        obtain ⟨bs, r2⟩ := y
        rw [hd] at hb
        dsimp only at hb
        rw [hb]
        exact ⟨dat_suf (low_suf h hl) hd, rfl⟩
  · rw [if_neg c1]
    by_cases c2 : c ≥ 240
    · rw [if_pos c2, body_sys c1 c2]
      have hb := bytes_r (k := k) (last := 0) hk hs h
      cases hd : dat r with
      | error e =>
        rw [hd] at hb
        obtain ⟨q, hb⟩ := hb
        rw [hb]
        refine ⟨by rcases dat_e hd with rfl | rfl | rfl <;> decide, _, rfl, rfl⟩
      | ok y =>
        obtain ⟨bs, r2⟩ := y
        rw [hd] at hb
        dsimp only at hb
        rw [hb]
        exact ⟨dat_suf h hd, rfl⟩
    · rw [if_neg c2, body_key (by omega), data_r hs h, Option.bind_some, one_f, Option.bind_some]
      have e1 : wrap64 (Int.tdiv c 16) = c / 16 := by rw [Int.tdiv_eq_ediv_of_nonneg (by omega)]; exact w64 (by omega) (by omega)
      have e2 : Int.tmod c 16 = c % 16 := Int.tmod_eq_emod_of_nonneg (by omega)
      rw [e1, e2]
      cases hl : low r with
      | error e =>
        dsimp only
        have he : e ≠ 0 := by rcases low_e hl with rfl | rfl <;> decide
        rw [data_e he]
        refine ⟨he, ?_⟩
        split
        · exact ⟨_, rfl, rfl⟩
        · exact ⟨_, rfl, rfl⟩
      | ok x =>
        obtain ⟨a, r1⟩ := x
        dsimp only
        have h3 := low_suf h hl
        by_cases c3 : c / 16 = 12 ∨ c / 16 = 13
        · rw [if_pos c3, if_pos (decide_eq_true c3)]
          exact ⟨h3, rfl⟩
        · rw [if_neg c3, if_neg (by rw [decide_eq_true_eq]; exact c3), data_r hs h3, Option.bind_some]
          cases hl2 : low r1 with
          | error e =>
            exact ⟨by rcases low_e hl2 with rfl | rfl <;> decide, _, rfl, rfl⟩
          | ok y =>
            obtain ⟨b, r2⟩ := y
            exact ⟨low_suf h3 hl2, rfl⟩

theorem message_r (hk : 7 ≤ k) (hs : s.size ≤ 140737488351232) (h : Suf s r) (hl : LastOk last) : Told (msg last r) s (wire_reader_message.f k s (pos s r) last 0) := by
  rw [message_rest, number_r hk hs h, Option.bind_some]
  cases hv : vlq 4 0 r with
  | error e =>
    have he : e ≠ 0 := by rcases vlq_e hv with rfl | rfl <;> decide
    unfold msg
    rw [hv]
    dsimp only
    rw [status_e he, Option.bind_some]
    exact ⟨he, rest_e he⟩
  | ok x =>
    obtain ⟨d, r1⟩ := x
    have h2 := vlq_suf h hv
    cases r1 with
    | nil =>
      unfold msg
      rw [hv]
      dsimp only
      rw [status_nil, Option.bind_some]
      exact ⟨by decide, rest_e (show (152 : Int) ≠ 0 by decide)⟩
    | cons c r1 =>
      rw [msg_at hv]
      dsimp only
      by_cases c1 : c < 128
      · rw [if_pos c1, status_lo hs h2 c1]
        by_cases c2 : last = 0
        · rw [if_pos c2, if_pos c2, Option.bind_some]
          exact ⟨by decide, rest_e (show (151 : Int) ≠ 0 by decide)⟩
        · rw [if_neg c2, if_neg c2, Option.bind_some]
          have hl2 : 128 ≤ last ∧ last < 240 := by rcases hl with hl | hl <;> omega
          exact rest_r hk hs h2 hl2.1 (by omega)
      · have hc := h2.bytes.head
        rw [if_neg c1, status_hi hs h2 c1, Option.bind_some]
        by_cases c2 : c > 240 ∧ c ≠ 247 ∧ c ≠ 255
        · rw [if_pos c2]
          dsimp only
          rw [if_pos c2]
          exact ⟨by decide, rest_e (by decide)⟩
        · rw [if_neg c2]
          dsimp only
          rw [if_neg c2]
          exact rest_r hk hs h2.tail (by omega) hc.2
end

/-! ### Decode -/
theorem decode_l0 {s : ByteArray} (hs : s.size ≤ 1000000000) : ∀ {l : Int} {r : List Int} {ms : List Msg}, Dec l r ms → LastOk l → Suf s r → ∀ (out : List Msg) (k : Nat), out.length + r.length ≤ 1000000000 → ms.length + 8 < k →
    wire_Decode.l0 k s out s (pos s r) l = some (out ++ ms, 0, 0)
  | l, _, _, .nil _, hl, h, out, k, _, hk => by
    obtain ⟨k, rfl⟩ : ∃ m, k = m + 1 := ⟨k - 1, by omega⟩
    simp only [wire_Decode.l0]
    rw [pos_nil, if_neg (by omega), List.append_nil]
  | l, r, _, .cons (m := m) (ms := ms) (r' := r') (l' := l') hm hd, hl, h, out, k, ho, hk => by
    rw [List.length_cons] at hk
    obtain ⟨k, rfl⟩ : ∃ m, k = m + 1 := ⟨k - 1, by omega⟩
    have ht := message_r (k := k) (by omega) (by omega) h hl
    rw [hm] at ht
    obtain ⟨h1, h2⟩ := ht
    obtain ⟨k1, rfl, p, hp, k3, k4⟩ := msg_ok hl h.bytes hm
    have hlen : r.length = p.length + r'.length := by rw [hp, List.length_append]
    have hlt : pos s r < s.size := by unfold pos; omega
    simp only [wire_Decode.l0]
    rw [if_pos hlt, h2, Option.bind_some]
    dsimp only
    rw [if_pos rfl, if_pos (by omega)]
    have ih := decode_l0 hs hd (nextL_ok k1) h1 (out ++ [m]) k (by rw [List.length_append, List.length_singleton]; omega) (by omega)
    rw [List.append_assoc] at ih
    exact ih
theorem decode_bad {s : ByteArray} (hs : s.size ≤ 1000000000) {l e : Int} {r : List Int} {n : Nat} (hd : Bad l r e n) : LastOk l → Suf s r → ∀ (out : List Msg), out.length + r.length ≤ 1000000000 →
    ∃ K, ∀ k, K ≤ k → wire_Decode.l0 k s out s (pos s r) l = some ([], (s.size : Int) - (n : Int), e) := by
  induction hd with
  | @here l e r hne hm =>
    intro hl h out _
    refine ⟨9, fun k hk => ?_⟩
    obtain ⟨k, rfl⟩ : ∃ m, k = m + 1 := ⟨k - 1, by omega⟩
    have ht := message_r (k := k) (by omega) (by omega) h hl
    rw [hm] at ht
    obtain ⟨he, t, h1, h2⟩ := ht
    have hlt : pos s r < s.size := by
      have := List.length_pos_iff.2 hne
      unfold pos; omega
    simp only [wire_Decode.l0]
    rw [if_pos hlt, h1, Option.bind_some, h2, if_neg he]
    rfl
  | @later l l' e r r' m n hm _ ih =>
    intro hl h out ho
    obtain ⟨k1, rfl, p, hp, k3, k4⟩ := msg_ok hl h.bytes hm
    have hlen : r.length = p.length + r'.length := by rw [hp, List.length_append]
    have hsuf : Suf s r' := by rw [hp] at h; exact h.of
    obtain ⟨K, hK⟩ := ih (nextL_ok k1) hsuf (out ++ [m]) (by rw [List.length_append, List.length_singleton]; omega)
    refine ⟨K + 9, fun k hk => ?_⟩
    obtain ⟨k, rfl⟩ : ∃ m, k = m + 1 := ⟨k - 1, by omega⟩
    have ht := message_r (k := k) (by omega) (by omega) h hl
    rw [hm] at ht
    obtain ⟨h1, h2⟩ := ht
    have hlt : pos s r < s.size := by unfold pos; omega
    simp only [wire_Decode.l0]
    rw [if_pos hlt, h2, Option.bind_some]
    dsimp only
    rw [if_pos rfl, if_pos (by omega)]
    exact hK k (by omega)

theorem decode_ok {s : ByteArray} (hs : s.size ≤ 1000000000) {ms : List Msg} (h : Dec 0 (bytesOf s) ms) : Ev (fun k => wire_Decode.f k s) (ms, 0, 0) := by
  refine ⟨ms.length + 9, fun k hk => ?_⟩
  have h1 := decode_l0 hs h (.inl rfl) (Suf.all s) [] k (by rw [bytesOf_length]; simpa using hs) (by omega)
  rw [pos_all] at h1
  exact h1
theorem decode_err {s : ByteArray} (hs : s.size ≤ 1000000000) {e : Int} {n : Nat} (h : Bad 0 (bytesOf s) e n) : Ev (fun k => wire_Decode.f k s) ([], (s.size : Int) - (n : Int), e) := by
  obtain ⟨K, hK⟩ := decode_bad hs h (.inl rfl) (Suf.all s) [] (by rw [bytesOf_length]; simpa using hs)
  refine ⟨K, fun k hk => ?_⟩
  have h1 := hK k hk
  rw [pos_all] at h1
  exact h1
end Go.Proofs.Ytmeefdaanjaoaaa.Z
