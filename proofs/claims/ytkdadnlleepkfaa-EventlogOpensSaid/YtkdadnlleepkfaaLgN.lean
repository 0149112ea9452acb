/- Add: the contract. -/
import Derived.Test.YtkdadnlleepkfaaLgM
import Derived.Test.YtkdadnlleepkfaaLgPl
namespace Go.Proofs.Ytkdadnlleepkfaa
open Go.RowKit
set_option linter.unusedVariables false
set_option linter.unusedSimpArgs false
theorem quietL {P : Program} {f : FuncId} {args : Array Value} {w : World} {n : Nat} {v : Value}
    (h : Calls P f args (w.drewN n) fun e w' => e = .returned v ∧ w.drewN n = w') : Calls P f args (w.drewN n) fun e w'' => e = .returned v ∧ ∃ m, w'' = w.drewN m :=
  h.mono fun _ _ ⟨he, hm⟩ => ⟨he, n, hm.symm⟩
theorem Well.mods0 {w w' : World} {q : LogAt} {B : Nat} {p : DevAt} {G : Geo} {D : Dev} {L : LogP} (h : Well w q B p G D L) (M : Mods [] w w') : Well w' q B p G D L :=
  ⟨h.dev.mods0 M, h.fit, h.size, h.secs, h.few, h.log.mods0 M, Nat.le_trans h.base M.size, h.apart, h.newest, h.tail, h.recs, h.next⟩
theorem growL_ended (G : Geo) (D : Dev) (L : LogP) : (growL G D L).2.2.ended = L.ended := by
  unfold growL
  split <;> rfl
theorem base_recs {G : Geo} {L : LogP} {S0 : LogS} (h : baseS G L = some S0) : S0.recs.length ≤ L.s.recs.length := by
  unfold baseS at h
  split at h
  · cases ht : tailL G L with
    | none => rw [ht] at h; cases h
    | some t => rw [ht] at h; injection h with h; rw [← h]; exact List.length_filter_le _ _
  · injection h with h; rw [h]; exact Nat.le_refl _
theorem enc_bytes {e : Evt} (he : validE e = true) : Bytes (encEv e ++ [0]) := fun i => by
  rcases Nat.lt_or_ge i 16 with hi | hi
  · rw [List.getD_eq_getElem?_getD, List.getElem?_append_left (by rw [encEv_len]; exact hi), ← List.getD_eq_getElem?_getD]
    exact encEv_byte he i
  · rw [List.getD_eq_getElem?_getD, List.getElem?_append_right (by rw [encEv_len]; exact hi), encEv_len]
    rcases Nat.lt_or_ge i 17 with h2 | h2
    · rw [show i - 16 = 0 by omega]; simp
    · rw [List.getElem?_eq_none (by simp; omega)]; simp
theorem Try.sizeSl : (Try.prog.info? 84).map (·.size) = some 1 := by kernel_rfl
/-- A log that is well, or has ended. -/
def Here (w : World) (q : LogAt) (B : Nat) (p : DevAt) (G : Geo) (L : LogP) : Prop :=
  (L.ended = false ∧ IsLog w q B (.pointer (some ⟨p.b, 0, none⟩)) G.first G.n L) ∨ (L = endL ∧ q.v = .slice none 0 0 ∧ IsEnd w q.b B)
def AddPost (w : World) (q : LogAt) (B : Nat) (p : DevAt) (G : Geo) (D : Dev) (L : LogP) (x : Evt) (e : Ending) (w' : World) : Prop :=
  ∃ v', e = .returned (.tuple #[.int .u16 ((addL G D L x).1.1 : Nat), .int .i64 (addL G D L x).1.2]) ∧ IsDev w' p (addL G D L x).2.1 ∧ Here w' ⟨q.b, v'⟩ B p G (addL G D L x).2.2 ∧
    Mods (p.foot ++ q.foot) w w' ∧ ∀ y, v'.ownBlock = some y → q.v.ownBlock = some y ∨ w.heap.size ≤ y
set_option maxRecDepth 100000 in
set_option maxHeartbeats 8000000 in
theorem ladd_ok (w : World) (q : LogAt) (B : Nat) (p : DevAt) (G : Geo) (D : Dev) (L : LogP) (h : Well w q B p G D L) (hsy : D.down = false → L.s = openS (byt D) G) (he : L.ended = false) (x : Evt) :
    Calls Try.prog 15 #[.pointer (some ⟨q.b, 0, none⟩), .agg x.cells.toArray] w fun e w' => AddPost w q B p G D L x e w' := by
  have H := Lib.hid h
  have M0 := Lib.hid ((Mods.refl (S := []) (w := w)).alloc (.cells x.cells.toArray 37))
  have B0 := Lib.hid (EvBox.new w x)
  have HD0 := Lib.hid (h.dev.mods0 M0.out)
  have HL0 := Lib.hid (h.log.mods0 M0.out)
  have HDW := Lib.hid (ldown_ok _ q B p D HD0.out G.first G.n L HL0.out he)
  have HE := Lib.hid he
  have HSY := Lib.hid hsy
  have HFL := Lib.hid (show q.b < w.heap.size from h.log.footlt q.b (by simp [LogAt.foot]))
  have HQP := Lib.hid (show ∀ k ∈ p.foot, k ∉ [q.b] from fun k hk hm => by simp at hm; subst hm; exact h.apart _ hk (by simp [LogAt.foot]))
  obtain ⟨dn, hdn⟩ : ∃ b, b = D.down := ⟨_, rfl⟩
  have HDN := Lib.hid hdn
  rw [← hdn] at HDW
  clear h he hsy hdn
  cases dn with
  | true =>
    have HA := Lib.hid (addL_end (G := G) (L := L) (.inr HDN.out.symm) x)
    go_enter Try.func15, Try.ntmps15
    go_wp2_with fail
    refine HDW.out.mono ?_
    rintro e w1 ⟨rfl, h1⟩
    have H1 := Lib.hid (show IsEnd w1 q.b B ∧ Mods [q.b] _ w1 from by simpa using h1)
    clear h1
    go_wp2_with fail
    go_ret2
    refine ⟨.slice none 0 0, by rw [HA.out]; rfl, ?_, ?_, ?_, fun y hy => by simp [Value.ownBlock] at hy⟩
    · rw [HA.out]; exact HD0.out.mods H1.out.2 HQP.out
    · rw [HA.out]; exact .inr ⟨rfl, rfl, H1.out.1⟩
    · exact M0.out.nil.trans (H1.out.2.mono (fun y hy => .inl (by simp at hy; subst hy; simp [LogAt.foot])))
  | false =>
    have HVA := Lib.hid (fun W => evValid_ok W x)
    go_enter Try.func15, Try.ntmps15
    go_wp2_with fail
    refine HDW.out.mono ?_
    rintro e w1 ⟨rfl, h1⟩
    obtain rfl : _ = w1 := by simpa using h1
    clear h1
    generalize hw0 : w.alloc (.cells x.cells.toArray 37) = w0 at M0 B0 HD0 HL0 HDW ⊢
    have HG3 := Lib.hid (show w.heap.size < w0.heap.size from lt_of_block B0.out)
    generalize hg3 : w.heap.size = g3 at B0 HG3 HFL ⊢
    clear hw0 HDW
    go_upto_region 3 with (fail)
    go_cut [20] (fun u wx => u = .bool (!(validE x && decide (x.id.val = 0))) ∧ Mods [] w0 wx)
    case first =>
      obtain ⟨vv, hvv⟩ : ∃ b, b = validE x := ⟨_, rfl⟩
      have HVV := Lib.hid (HVA.out w0)
      have HV2 := Lib.hid hvv
      rw [← hvv] at HVV
      clear hvv
      cases vv with
      | false =>
        go_wp2_with (refine wpList_load_rowG (by rfl) 37 (.tmp 3) rfl g3 (by rfl) _ _ _ _ B0.out Try.underlying37 rfl Try.sizeEv ?_)
        refine HVV.out.mono ?_
        rintro e w1 ⟨rfl, M1⟩
        have HM1 := Lib.hid M1
        clear M1
        go_wp2_with fail
        go_meet
        exact ⟨by rw [← HV2.out]; rfl, HM1.out⟩
      | true =>
        go_wp2_with (refine wpList_load_rowG (by rfl) 37 (.tmp 3) rfl g3 (by rfl) _ _ _ _ B0.out Try.underlying37 rfl Try.sizeEv ?_)
        refine HVV.out.mono ?_
        rintro e w1 ⟨rfl, M1⟩
        have HM1 := Lib.hid M1
        have c0 := (B0.out.mods0 M1).cs.1
        clear M1
        by_cases h0 : x.id.val = 0
        · have h1 : ((x.id.val : Nat) : Int) = 0 := by omega
          go_wp2_with fail
          go_meet
          exact ⟨by rw [← HV2.out]; simp [h0], HM1.out⟩
        · have h1 : ¬ ((x.id.val : Nat) : Int) = 0 := by omega
          go_wp2_with fail
          go_meet
          exact ⟨by rw [← HV2.out]; simp [h0], HM1.out⟩
    case rest =>
      obtain ⟨rfl, MC⟩ := hcut
      have HDC := Lib.hid (HD0.out.mods0 MC)
      have HLC := Lib.hid (HL0.out.mods0 MC)
      have BC := Lib.hid (B0.out.mods0 MC)
      have HMC := Lib.hid (M0.out.trans MC)
      have HGC := Lib.hid (lt_of_block BC.out)
      clear MC HVA M0 B0 HD0 HL0 HG3
      generalize wc = w1 at HDC HLC BC HMC HGC ⊢
      obtain ⟨ok, hok⟩ : ∃ b, b = (validE x && decide (x.id.val = 0)) := ⟨_, rfl⟩
      rw [← hok]
      have HOKE := Lib.hid hok
      clear hok
      cases ok with
      | false =>
        have HA := Lib.hid (addL_bad (G := G) HE.out HDN.out.symm HOKE.out.symm)
        go_wp2_with fail
        go_ret2
        refine ⟨q.v, by rw [HA.out]; rfl, by rw [HA.out]; exact HDC.out, by rw [HA.out]; exact .inl ⟨HE.out, HLC.out⟩, HMC.out.nil, fun y hy => .inl hy⟩
      | true =>
        have HVX := Lib.hid (show validE x = true ∧ x.id.val = 0 from by have := HOKE.out; simpa using this.symm)
        go_upto_region 5 with (fail)
        have HSZ := Lib.hid (H.out.fit.size)
        have hs64 := H.out.fit.s64
        have hs1024 := H.out.size
        have HUS := Lib.hid (show G.slots = (D.size - 11) / 17 by unfold Geo.slots; rw [HSZ.out])
        have HZC := Lib.hid (fun W (M : Mods [] w1 W) => size_ok W p D (HDC.out.mods0 M))
        have HSL := Lib.hid (fun W => slots_ok W D.size hs64 hs1024)
        have c0 := (HLC.out.c 0).trans (show _ = some (Value.pointer (some ⟨p.b, 0, none⟩)) from rfl)
        have c4 := (HLC.out.c 4).trans (show _ = some (Value.int .i64 (L.s.newest : Nat)) from rfl)
        have c6 := (HLC.out.c 6).trans (show _ = some (Value.int .i64 (L.s.used : Nat)) from rfl)
        clear hs64 hs1024
        go_cut [38] (fun u wx => u = .bool (needG G L.s) ∧ Mods [] w1 wx)
        case first =>
          by_cases hn0 : L.s.newest = 0
          · have hN := Lib.hid (show needG G L.s = true by unfold needG; simp [hn0])
            have e1 : ((L.s.newest : Nat) : Int) = 0 := by omega
            go_quiet (fail)
            go_wp2_with fail
            go_meet
            exact ⟨by rw [hN.out], Mods.refl.drewN _⟩
          · have e1 : ¬ ((L.s.newest : Nat) : Int) = 0 := by omega
            by_cases hu : L.s.used = G.slots
            · have hN := Lib.hid (show needG G L.s = true by unfold needG; simp [hu])
              rw [HUS.out] at hu
              have e2 : ((L.s.used : Nat) : Int) = (((D.size - 11) / 17 : Nat) : Int) := by omega
              go_quiet (first | (go_at_call 48; exact quietL (HZC.out _ (Mods.refl.drewN _))) | (go_at_call 53; exact quietL (HSL.out _)))
              go_wp2_with fail
              go_meet
              exact ⟨by rw [hN.out], Mods.refl.drewN _⟩
            · have hN := Lib.hid (show needG G L.s = false by unfold needG; simp [hu, hn0])
              rw [HUS.out] at hu
              have e2 : ¬ ((L.s.used : Nat) : Int) = (((D.size - 11) / 17 : Nat) : Int) := by omega
              go_quiet (first | (go_at_call 48; exact quietL (HZC.out _ (Mods.refl.drewN _))) | (go_at_call 53; exact quietL (HSL.out _)))
              go_wp2_with fail
              go_meet
              exact ⟨by rw [hN.out]; refine congrArg Value.bool ?_; rw [Bool.or_eq_false_iff, beq_eq_false_iff_ne, beq_eq_false_iff_ne]; constructor <;> omega, Mods.refl.drewN _⟩
        case rest =>
          obtain ⟨rfl, MC⟩ := hcut
          clear c0 c4 c6 HZC
          go_upto_if 38 with (fail)
          go_cut [] (fun wx => ∃ v1, (placeL G D L).1 = 0 ∧ IsDev wx p (placeL G D L).2.1 ∧ IsLog wx ⟨q.b, v1⟩ B (.pointer (some ⟨p.b, 0, none⟩)) G.first G.n (placeL G D L).2.2 ∧ Mods (p.foot ++ q.foot) w wx ∧ (∀ y, v1.ownBlock = some y → q.v.ownBlock = some y ∨ g3 < y) ∧ EvBox wx g3 x)
          case first =>
            have HMC2 := Lib.hid (HMC.out.trans MC)
            have HBC2 := Lib.hid (BC.out.mods0 MC)
            have HWL := Lib.hid (H.out.mods0 HMC2.out)
            have HGL := Lib.hid (HBC2.out.lt)
            clear MC
            generalize wc = w2 at HMC2 HBC2 HWL HGL ⊢
            obtain ⟨nd, hnd⟩ : ∃ b, b = needG G L.s := ⟨_, rfl⟩
            have HND := Lib.hid hnd
            rw [← hnd]
            clear hnd
            cases nd with
            | false =>
              have hP : placeL G D L = (0, D, L) := by unfold placeL; rw [← HND.out]; rfl
              have HP := Lib.hid hP
              clear hP
              go_wp2_with fail
              go_meet
              rw [HP.out]
              exact ⟨q.v, rfl, HWL.out.dev, HWL.out.log, HMC2.out.nil, fun y hy => .inl hy, HBC2.out⟩
            | true =>
              have HP := Lib.hid (show placeL G D L = growL G D L by unfold placeL; rw [← HND.out]; rfl)
              have HGR := Lib.hid (lgrow_ok w2 q B p G D L HWL.out HDN.out.symm)
              have HF3 := Lib.hid (show g3 ∉ p.foot ++ q.foot from fun hm => by
                rcases List.mem_append.1 hm with h | h
                · have := H.out.dev.lt _ h; omega
                · have := H.out.log.footlt _ h; omega)
              by_cases hc : (growL G D L).1 = 0
              · have HC := Lib.hid hc
                go_wp2_with (go_at_call 54; refine HGR.out.mono ?_; intro e w3 hp; obtain ⟨v1, he, hd, hl, hm, hy⟩ := hp; rw [HC.out] at he; subst he; have H3 := Lib.hid (And.intro hd (And.intro hl (And.intro hm hy))); clear hd hl hm hy)
                go_meet
                rw [HP.out]
                obtain ⟨hd, hl, hm, hy⟩ := H3.out
                exact ⟨v1, HC.out, hd, hl, HMC2.out.nil.trans hm, fun y h => (hy y h).imp id (fun h => by have := HGL.out; omega), HBC2.out.mods hm HF3.out⟩
              · have HC := Lib.hid hc
                have HEN := Lib.hid ((growL_ended G D L).trans HE.out)
                have HAL := Lib.hid (show addL G D L x = ((0, (growL G D L).1), (growL G D L).2.1, orEnd (growL G D L).2.1 (growL G D L).2.2) by
                  unfold addL
                  rw [if_neg (by rw [HE.out, ← HDN.out]; decide), if_neg (by rw [← HOKE.out]; decide), HP.out, if_pos HC.out])
                have HGR2 := Lib.hid (show Calls Try.prog 54 #[.pointer (some ⟨q.b, 0, none⟩)] w2 fun e w' => ∃ v', e = .returned (.int .i64 (growL G D L).1) ∧ IsDev w' p (growL G D L).2.1 ∧ IsLog w' ⟨q.b, v'⟩ B (.pointer (some ⟨p.b, 0, none⟩)) G.first G.n (growL G D L).2.2 ∧ Mods (p.foot ++ q.foot) w2 w' ∧ ∀ y, v'.ownBlock = some y → q.v.ownBlock = some y ∨ w2.heap.size ≤ y from HGR.out)
                clear HGR
                generalize growL G D L = R at HGR2 HC hc HEN HAL
                obtain ⟨cd, D1, L1⟩ := R
                simp only at HGR2 HC hc HEN HAL
                have hcb : (cd != 0) = true := by simpa using hc
                go_wp2_with (go_at_call 54; refine HGR2.out.mono ?_; rintro e w3 ⟨v1, rfl, hd, hl, hm, hy⟩; have H3 := Lib.hid (And.intro hd (And.intro hl (And.intro hm hy))); clear hd hl hm hy)
                have HDN3 := Lib.hid (ldown_ok w3 ⟨q.b, v1⟩ B p D1 H3.out.1 G.first G.n L1 H3.out.2.1 HEN.out)
                refine HDN3.out.mono ?_
                rintro e w4 ⟨rfl, h4⟩
                have H4 := Lib.hid h4
                clear h4
                go_wp2_with fail
                go_ret2
                obtain ⟨hd, hl, hm, hy⟩ := H3.out
                have h4 := H4.out
                by_cases hdn1 : D1.down = true
                · rw [if_pos hdn1] at h4
                  have ho : orEnd D1 L1 = endL := if_pos hdn1
                  refine ⟨.slice none 0 0, by rw [HAL.out]; rfl, by rw [HAL.out]; exact hd.mods h4.2 HQP.out, by rw [HAL.out]; exact .inr ⟨ho, rfl, h4.1⟩, HMC2.out.nil.trans (hm.trans (h4.2.mono (fun y hy => .inl (by simp at hy; subst hy; simp [LogAt.foot])))), fun y hy => by simp [Value.ownBlock] at hy⟩
                · rw [if_neg hdn1] at h4
                  subst h4
                  have ho : orEnd D1 L1 = L1 := if_neg hdn1
                  refine ⟨v1, by rw [HAL.out]; rfl, by rw [HAL.out]; exact hd, by rw [HAL.out]; exact .inl ⟨by show (orEnd D1 L1).ended = false; rw [ho]; exact HEN.out, by show IsLog _ _ _ _ _ _ (orEnd D1 L1); rw [ho]; exact hl⟩, HMC2.out.nil.trans hm, fun y h => (hy y h).imp id (fun h => by have := HGL.out; omega)⟩
          case rest =>
            obtain ⟨v1, hp0, hd1, hl1, hm1, hy1, hb1⟩ := hcut
            have hPS := placeL_spec H.out.fit HDN.out.symm H.out.few (HSY.out HDN.out.symm)
            have hAL : addL G D L x = (if (putR G (placeL G D L).2.1 (placeL G D L).2.2.s (withId x (placeL G D L).2.2.s.next)).1 ≠ 0 then ((0, (putR G (placeL G D L).2.1 (placeL G D L).2.2.s (withId x (placeL G D L).2.2.s.next)).1), (putR G (placeL G D L).2.1 (placeL G D L).2.2.s (withId x (placeL G D L).2.2.s.next)).2, orEnd (putR G (placeL G D L).2.1 (placeL G D L).2.2.s (withId x (placeL G D L).2.2.s.next)).2 (placeL G D L).2.2) else (((placeL G D L).2.2.s.next, 0), (putR G (placeL G D L).2.1 (placeL G D L).2.2.s (withId x (placeL G D L).2.2.s.next)).2, { (placeL G D L).2.2 with s := moreS (placeL G D L).2.2.s x })) := by
              unfold addL
              rw [if_neg (by rw [HE.out, ← HDN.out]; decide), if_neg (by rw [← HOKE.out]; decide), if_neg (by rw [hp0]; decide)]
            obtain ⟨s1, s2, -, s4⟩ := hPS
            generalize placeL G D L = R at hp0 hd1 hl1 hAL s1 s2 s4
            obtain ⟨cd, D1, L1⟩ := R
            simp only at hp0 hd1 hl1 hAL s1 s2 s4
            subst hp0
            have hs : ∃ S0, baseS G L = some S0 ∧ L1 = { L with s := S0 } ∧ S0 = openS (byt D1) G ∧ 0 < S0.newest ∧ S0.used < G.slots ∧ D1.down = false := by
              rcases s4 with ⟨_, d, S0, h1, h2, h3, h4, h5⟩ | ⟨h, _⟩ | ⟨h, _⟩ | ⟨h, _⟩
              · exact ⟨S0, h1, h2, h3, h4, h5, d⟩
              · cases h
              · cases h
              · cases h
            obtain ⟨S0, hb0, rfl, hs0, hn0, hu0, hdn1⟩ := hs
            have hr0 := base_recs hb0
            simp only at hAL
            clear s4 hb0
            have HFI := Lib.hid s1
            have HFE := Lib.hid s2
            have HNX := Lib.hid (show 1 ≤ S0.next ∧ S0.next ≤ 65534 from hs0 ▸ next_rng (byt D1) G)
            have HNW := Lib.hid (show S0.newest ≤ 2147483648 from hs0 ▸ (openS_facts (byt D1) G).2.2.1)
            have HAL := Lib.hid hAL
            have HRC := Lib.hid (show S0.recs.length ≤ 100000 from Nat.le_trans hr0 H.out.recs)
            have HD1 := Lib.hid hd1
            have HL1 := Lib.hid hl1
            have HM1 := Lib.hid hm1
            have HY1 := Lib.hid hy1
            have HB1 := Lib.hid hb1
            have HU0 := Lib.hid hu0
            have HN0 := Lib.hid hn0
            have HUP := Lib.hid hdn1
            clear hAL s1 s2 hs0 hr0 hd1 hl1 hm1 hy1 hb1 hu0 hn0 hdn1 MC HDC HLC BC HMC HGC HSL
            generalize wc = w2 at HD1 HL1 HM1 HB1 ⊢
            have HXV := Lib.hid (validE_withId HVX.out.1 HNX.out.2)
            have HXC := Lib.hid (show x.cells.toArray.setIfInBounds 0 (.int .u16 ((S0.next : Nat) : Int)) = (withId x S0.next).cells.toArray by
              have h1 : (withId x S0.next).id.val = S0.next := withId_id HNX.out.2
              simp only [Evt.cells, h1]
              rfl)
            have c7 := (HL1.out.c 7).trans (show _ = some (Value.int .u16 (S0.next : Nat)) from rfl)
            have b0 := HB1.out.cs.1
            have fb := HB1.out.fr 0
            go_upto_region 11 with (fail)
            have MS := (Mods.refl (S := [g3]) (w := w2)).setCell (p := ⟨g3, 0, none⟩) (.inl (by simp)) (.int .u16 ((S0.next : Nat) : Int))
            have HB3 := Lib.hid (show EvBox (w2.setCell ⟨g3, 0, none⟩ (.int .u16 ((S0.next : Nat) : Int))) g3 (withId x S0.next) from by
              have := heap_setCell (i := 0) (v := .int .u16 ((S0.next : Nat) : Int)) HB1.out
              rw [HXC.out] at this
              exact this)
            have HG3p := Lib.hid (show ∀ k ∈ p.foot, k ∉ [g3] from fun k hk hm => by
              simp at hm; subst hm
              have := H.out.dev.lt _ hk; omega)
            have HG3q := Lib.hid (show ∀ k ∈ LogAt.foot ⟨q.b, v1⟩, k ∉ [g3] from fun k hk hm => by
              simp at hm; subst hm
              simp only [LogAt.foot, List.mem_cons, Option.mem_toList] at hk
              have := HFL.out
              rcases hk with h | h
              · omega
              · rcases HY1.out _ h with h2 | h2
                · have := (H.out.log.own.lt _ h2).2; omega
                · omega)
            have HD3 := Lib.hid (HD1.out.mods MS HG3p.out)
            have HL3 := Lib.hid (HL1.out.mods MS HG3q.out)
            have HM3 := Lib.hid (show Mods (p.foot ++ q.foot) w _ from HM1.out.comp MS (fun y hy => .inr (by simp at hy; omega)))
            clear c7 b0 fb MS HB1 HD1 HL1 HM1
            generalize w2.setCell ⟨g3, 0, none⟩ (.int .u16 ((S0.next : Nat) : Int)) = w3 at HB3 HD3 HL3 HM3 ⊢
            obtain ⟨x', hx'⟩ : ∃ x', x' = withId x S0.next := ⟨_, rfl⟩
            have HX' := Lib.hid (show x'.id.val = S0.next by rw [hx']; exact withId_id HNX.out.2)
            rw [← hx'] at HXV HB3 HAL
            have HXE := Lib.hid hx'
            clear hx' HXC
            have HEN := Lib.hid (evEncode_ok w3 x' HXV.out)
            go_upto_region 12 with (first
              | (refine wpList_load_rowG (by rfl) 37 (.tmp 3) rfl g3 (by rfl) _ _ _ _ HB3.out Try.underlying37 rfl Try.sizeEv ?_)
              | (go_at_call 55; refine HEN.out.mono ?_; rintro e w4 ⟨v7, rfl, hO, hM⟩; have HO7 := Lib.hid hO; have HM7 := Lib.hid hM; clear hO hM))
            have HD4 := Lib.hid (HD3.out.mods0 HM7.out)
            have HL4 := Lib.hid (HL3.out.mods0 HM7.out)
            have HB4 := Lib.hid (HB3.out.mods0 HM7.out)
            have HM4 := Lib.hid (HM3.out.comp0 HM7.out)
            have HZ3 := Lib.hid (lt_of_block HB3.out)
            clear HEN
            obtain ⟨j, hj⟩ : ∃ j, j = (S0.newest - 1) % G.n := ⟨_, rfl⟩
            have HJ := Lib.hid hj
            have hn2 := HFI.out.n2
            have hjn : j < G.n := by rw [hj]; exact Nat.mod_lt _ (by omega)
            have hT1 : (((S0.newest : Nat) : Int) - 1).tmod (G.n : Int) = ((j : Nat) : Int) := by
              have := HN0.out
              rw [Int.tmod_eq_emod_of_nonneg (by omega), hj, show ((S0.newest : Nat) : Int) - 1 = ((S0.newest - 1 : Nat) : Int) by omega, Int.natCast_emod]
            have HAT := Lib.hid (show G.at j + G.size ≤ 16384 by
              have h1 : G.at j + G.size ≤ D1.data.length := HFI.out.sect hjn
              have h2 := HFI.out.ok.len
              omega)
            have HSZ1 := Lib.hid (show G.size = D1.size from HFI.out.size)
            have hm0 : IntKind.i64.wrap ((((G.first : Nat) : Int) + ((j : Nat) : Int)) * ((D1.size : Nat) : Int)) = ((G.at j : Nat) : Int) := by
              have h3 : G.at j = (G.first + j) * D1.size := by unfold Geo.at; rw [HSZ1.out]
              have := HAT.out
              rw [← Int.natCast_add, ← Int.natCast_mul, ← h3]
              exact IntWalk.i64_in _ (by omega)
            have a0 : (0 : Int) ≤ ((G.at j : Nat) : Int) := by omega
            have a1 : ((G.at j : Nat) : Int) ≤ 16384 := by have := HAT.out; omega
            have u0 : (0 : Int) ≤ ((S0.used : Nat) : Int) := by omega
            have u1 : ((S0.used : Nat) : Int) ≤ 100 := by
              have h1 := HU0.out
              have h2 := HFI.out.ok.s1
              have h3 := HSZ1.out
              unfold Geo.slots at h1
              omega
            have n1 : (1 : Int) ≤ ((S0.newest : Nat) : Int) := by have := HN0.out; omega
            have n2 : ((S0.newest : Nat) : Int) ≤ 2147483648 := by have := HNW.out; omega
            have f0 : (0 : Int) ≤ ((G.first : Nat) : Int) := by omega
            have f1 : ((G.first : Nat) : Int) ≤ 16 := by have h1 := HFI.out.sec; have h2 := HFI.out.ok.wl; omega
            have j0 : (0 : Int) ≤ ((j : Nat) : Int) := by omega
            have j1 : ((j : Nat) : Int) ≤ 16 := by have h1 := HFI.out.sec; have h2 := HFI.out.ok.wl; omega
            have g1 : ¬ ((G.n : Nat) : Int) = 0 := by omega
            have HSLT := Lib.hid (show G.slot ((S0.newest - 1) % G.n) S0.used = G.at j + 11 + 17 * S0.used by rw [← hj]; rfl)
            have c0 := (HL4.out.c 0).trans (show _ = some (Value.pointer (some ⟨p.b, 0, none⟩)) from rfl)
            have c1 := (HL4.out.c 1).trans (show _ = some (Value.int .i64 (G.first : Nat)) from rfl)
            have c2 := (HL4.out.c 2).trans (show _ = some (Value.int .i64 (G.n : Nat)) from rfl)
            have c4 := (HL4.out.c 4).trans (show _ = some (Value.int .i64 (S0.newest : Nat)) from rfl)
            have c6 := (HL4.out.c 6).trans (show _ = some (Value.int .i64 (S0.used : Nat)) from rfl)
            have HZC := Lib.hid (fun W (M : Mods [] w4 W) => size_ok W p D1 (HD4.out.mods0 M))
            clear hj hn2
            go_cut [9] (fun u wx => u = .int .i64 ((G.slot ((S0.newest - 1) % G.n) S0.used : Nat) : Int) ∧ Mods [] w4 wx)
            case first =>
              go_quiet (first | (go_at_call 48; exact quietL (HZC.out _ (Mods.refl.drewN _))))
              go_wp2_with fail
              go_meet
              exact ⟨by rw [HSLT.out]; refine congrArg _ ?_; push_cast; omega, Mods.refl.drewN _⟩
            case rest =>
              obtain ⟨rfl, MC⟩ := hcut
              have HM5 := Lib.hid (show Mods [] w3 wc from HM7.out.trans MC)
              have HO5 := Lib.hid (HO7.out.mods0 MC)
              clear MC HD4 HL4 HB4 HM4 HO7 HM7 c0 c1 c2 c4 c6 HZC a0 a1 u0 u1 n1 n2 f0 f1 j0 j1 g1 hm0 hT1
              generalize wc = w5 at HM5 HO5 ⊢
              have HQF := Lib.hid (show q.b ∉ p.foot from fun h => H.out.apart _ h (by simp [LogAt.foot]))
              have HAP1 := Lib.hid (show ∀ k ∈ p.foot, k ∉ LogAt.foot ⟨q.b, v1⟩ from fun k hk hm => by
                simp only [LogAt.foot, List.mem_cons, Option.mem_toList] at hm
                rcases hm with h | h
                · subst h; exact HQF.out hk
                · rcases HY1.out _ h with h2 | h2
                  · exact H.out.apart _ hk (by simp [LogAt.foot, h2])
                  · have := H.out.dev.lt _ hk; omega)
              go_upto_region 13 with (fail)
              go_cut [10] (fun u wx => u = .int .i64 (putR G D1 S0 x').1 ∧ IsDev wx p (putR G D1 S0 x').2 ∧ Mods p.foot w3 wx)
              case first =>
                have HST := Lib.hid (show Mods p.foot w3 w5.drew from HM5.out.nil.drew)
                refine heldStart (S := fun W => Mods p.foot w3 W) 10 rfl (by kernel_rfl) HST.out (fun hHeld => ?_)
                refine takeD (i := 0) (d := 84) (v := ?_) rfl rfl (by kernel_rfl) (by kernel_rfl) (by kernel_rfl) (fun _ _ _ h => h) (Or.inl ⟨by rfl, ?_⟩) hHeld ?_
                rotate_left 1
                · (intro w hSw; (try dsimp only at hSw); go_simp; (try with_reducible rfl))
                simp only [List.setIfInBounds_toArray, List.set_cons_zero, List.set_cons_succ]
                refine takeD (i := 1) (d := 85) (v := ?_) rfl rfl (by kernel_rfl) (by kernel_rfl) (by kernel_rfl) (fun _ _ _ h => h) (Or.inl ⟨by rfl, ?_⟩) hHeld ?_
                rotate_left 1
                · (intro w hSw; (try dsimp only at hSw); go_simp; (try with_reducible rfl))
                simp only [List.setIfInBounds_toArray, List.set_cons_zero, List.set_cons_succ]
                refine takeD (i := 2) (d := 86) (v := ?_) rfl rfl (by kernel_rfl) (by kernel_rfl) (by kernel_rfl) (fun _ _ _ h => h) (Or.inl ⟨by rfl, ?_⟩) hHeld ?_
                rotate_left 1
                · (intro w hSw; (try dsimp only at hSw); go_simp; (try with_reducible rfl))
                simp only [List.setIfInBounds_toArray, List.set_cons_zero, List.set_cons_succ]
                refine takeD (i := 3) (d := 87) (v := (.pointer (some ⟨p.b,0,none⟩))) rfl rfl (by kernel_rfl) (by kernel_rfl) (by kernel_rfl) (fun _ _ _ h => h) (Or.inl ⟨by rfl, fun w hSw => ?_⟩) hHeld ?_
                · have cst := (cell_blk (hSw.heap HL3.out.blk HQF.out) 0).trans (show _ = some (.pointer (some ⟨p.b,0,none⟩)) from rfl)
                  go_simp
                simp only [List.setIfInBounds_toArray, List.set_cons_zero, List.set_cons_succ]
                refine takeD (i := 4) (d := 88) (v := ?_) rfl rfl (by kernel_rfl) (by kernel_rfl) (by kernel_rfl) (fun _ _ _ h => h) (Or.inl ⟨by rfl, ?_⟩) hHeld ?_
                rotate_left 1
                · (intro w hSw; (try dsimp only at hSw); go_simp; (try with_reducible rfl))
                simp only [List.setIfInBounds_toArray, List.set_cons_zero, List.set_cons_succ]
                refine takeD (i := 5) (d := 89) (v := ?_) rfl rfl (by kernel_rfl) (by kernel_rfl) (by kernel_rfl) (fun _ _ _ h => h) (Or.inl ⟨by rfl, ?_⟩) hHeld ?_
                rotate_left 1
                · (intro w hSw; (try dsimp only at hSw); go_simp; (try with_reducible rfl))
                simp only [List.setIfInBounds_toArray, List.set_cons_zero, List.set_cons_succ]
                refine wpAnyH_ready (rs := [6]) (by kernel_rfl) (by simp) ?_
                refine AllReadyH.cons rfl (fun K hK => ?_) AllReadyH.nil
                go_simp
                have M6 := ((Mods.refl (S := []) (w := w5)).drew).alloc (.cells #[.int .u8 0] 5)
                have HM6 := Lib.hid M6
                have HM36 := Lib.hid (HM5.out.trans M6)
                have HG6 := Lib.hid (show (w5.drew.alloc (.cells #[.int .u8 0] 5)).heap[w5.heap.size]? = some (.cells (u8s [0]).toArray 5 (0, 0)) from heap_alloc_new w5.drew _)
                refine hK.out _ _ HM36.out.nil (fun _ => ?_)
                clear hK K M6
                try dsimp only
                refine wpAnyH_ready (rs := [7]) (by kernel_rfl) (by simp) ?_
                refine AllReadyH.cons rfl (fun K hK => ?_) AllReadyH.nil
                refine step_appD (a := ⟨_, []⟩) (by rfl) 91 rfl (.tmp 89) (.tmp 90) rfl (by rfl) (HO5.out.mods0 HM6.out) (X := [0]) (by rfl) (rdRow _ HG6.out (by simp; decide)) (by simp [encEv_len]) HM36.out.size (fun x4 W7 O7 M7 => ?_)
                have HM7 := Lib.hid (show Mods [] w3 W7 from HM36.out.comp M7 (fun y hy => .inr (HO5.out.back hy)))
                have HO7 := Lib.hid O7
                clear O7 M7 HO5 HM6 HM36 HG6
                refine hK.out _ _ HM7.out.nil (fun _ => ?_)
                clear hK K
                try dsimp only
                refine wpAnyH_ready (rs := [8]) (by kernel_rfl) (by simp) ?_
                refine AllReadyH.cons rfl (fun K hK => ?_) AllReadyH.nil
                have HPG := Lib.hid (program_ok W7 p D1 (HD3.out.mods0 HM7.out) HFI.out.ok ((G.slot ((S0.newest - 1) % G.n) S0.used : Nat) : Int) x4 (encEv x' ++ [0]) HO7.out.rd (enc_bytes HXV.out) (fun _ k hk hm => by
                  have h1 := (HO7.out.lt k hk).1
                  have h2 := H.out.dev.lt k (by simp [DevAt.foot] at hm ⊢; rcases hm with h | h <;> simp [h])
                  have h3 := HZ3.out
                  omega) (Int.le_trans HFE.out.st (by decide)))
                go_simp
                go_wp2_with (go_at_call 32; refine HPG.out.mono ?_; rintro e W8 ⟨rfl, D8, M8⟩)
                have HD8 := Lib.hid (show IsDev W8 p (putR G D1 S0 x').2 from D8)
                have HM8 := Lib.hid (show Mods p.foot w3 W8 from HM7.out.nil.trans (M8.mono (fun y hy => .inl (by simp [DevAt.foot] at hy ⊢; rcases hy with h | h <;> simp [h]))))
                clear D8 M8
                refine hK.out _ _ HM8.out (fun hHeld => ?_)
                clear hK K
                refine takeD (i := 9) (d := 10) (v := ?_) rfl rfl (by kernel_rfl) (by kernel_rfl) (by kernel_rfl) (fun _ _ _ h => h) (Or.inl ⟨by rfl, ?_⟩) hHeld ?_
                rotate_left 1
                · (intro w hSw; (try dsimp only at hSw); go_simp; (try with_reducible rfl))
                simp only [List.setIfInBounds_toArray, List.set_cons_zero, List.set_cons_succ]
                refine wpAnyH_done (by kernel_rfl) ?_ _
                go_wp2_with fail
                go_meet
                exact ⟨rfl, HD8.out, HM8.out⟩
              case rest =>
                obtain ⟨rfl, hdP, hmP⟩ := hcut
                have HDP := Lib.hid hdP
                have HLP := Lib.hid (HL3.out.mods hmP (fun y hy hm => HAP1.out y hm hy))
                have HBP := Lib.hid (HB3.out.mods hmP (fun hm => by have := H.out.dev.lt _ hm; omega))
                have HMP := Lib.hid (show Mods (p.foot ++ q.foot) w wc from HM3.out.trans (hmP.mono (fun y hy => .inl (List.mem_append.2 (.inl hy)))))
                clear hdP hmP HD3 HL3 HB3 HM3 HM5 HO5
                generalize wc = w6 at HDP HLP HBP HMP ⊢
                by_cases hc : (putR G D1 S0 x').1 = 0
                · have HA := Lib.hid (HAL.out.trans (if_neg (by rw [hc]; decide)))
                  rw [hc]
                  go_upto_region 17 with (fail)
                  have HQV := Lib.hid (show q.b ∉ v1.ownBlock.toList from fun h => by have h1 := HLP.out.own.back h; have h2 := HLP.out.lt; simp only at h2; omega)
                  have H3V := Lib.hid (show g3 ∉ v1.ownBlock.toList from fun h => by
                    rcases HY1.out g3 (by simpa using h) with h2 | h2
                    · have := (H.out.log.own.lt _ h2).2; omega
                    · omega)
                  have H3Q := Lib.hid (show ¬ g3 = q.b by have := HFL.out; omega)
                  have HZ6 := Lib.hid (show g3 < w6.heap.size from lt_of_block HBP.out)
                  go_cut [] (fun wx => ∃ VB, IsLog wx ⟨q.b, VB⟩ B (.pointer (some ⟨p.b, 0, none⟩)) G.first G.n { L with s := { S0 with recs := S0.recs ++ [(S0.newest, x')] } } ∧ Mods (q.b :: v1.ownBlock.toList) w6 wx ∧ (∀ y, VB.ownBlock = some y → q.v.ownBlock = some y ∨ g3 < y) ∧ EvBox wx g3 x')
                  case first =>
                    have HC4 := Lib.hid (show w6.drew.cell? ⟨q.b, 4, none⟩ = some (.int .i64 ((S0.newest : Nat) : Int)) from (HLP.out.c 4).trans rfl)
                    refine heldStart (S := fun W => W.cell? ⟨q.b, 4, none⟩ = some (.int .i64 ((S0.newest : Nat) : Int)) ∧ Mods (q.b :: v1.ownBlock.toList) w6 W) 16 rfl (by kernel_rfl) ⟨HC4.out, Mods.refl.drew⟩ (fun hHeld => ?_)
                    refine takeD (i := 0) (d := 98) (v := ?_) rfl rfl (by kernel_rfl) (by kernel_rfl) (by kernel_rfl) (fun _ _ _ h => h) (Or.inl ⟨by rfl, ?_⟩) hHeld ?_
                    rotate_left 1
                    · (intro w hSw; (try dsimp only at hSw); go_simp; (try with_reducible rfl))
                    simp only [List.setIfInBounds_toArray, List.set_cons_zero, List.set_cons_succ]
                    refine takeD (i := 1) (d := 99) (v := ?_) rfl rfl (by kernel_rfl) (by kernel_rfl) (by kernel_rfl) (fun _ _ _ h => h) (Or.inl ⟨by rfl, ?_⟩) hHeld ?_
                    rotate_left 1
                    · (intro w hSw; (try dsimp only at hSw); go_simp; (try with_reducible rfl))
                    simp only [List.setIfInBounds_toArray, List.set_cons_zero, List.set_cons_succ]
                    refine takeD (i := 2) (d := 100) (v := ?_) rfl rfl (by kernel_rfl) (by kernel_rfl) (by kernel_rfl) (fun _ _ _ h => h) (Or.inl ⟨by rfl, ?_⟩) hHeld ?_
                    rotate_left 1
                    · (intro w hSw; (try dsimp only at hSw); go_simp; (try with_reducible rfl))
                    simp only [List.setIfInBounds_toArray, List.set_cons_zero, List.set_cons_succ]
                    refine takeD (i := 3) (d := 101) (v := ?_) rfl rfl (by kernel_rfl) (by kernel_rfl) (by kernel_rfl) (fun _ _ _ h => h) (Or.inl ⟨by rfl, ?_⟩) hHeld ?_
                    rotate_left 1
                    · (intro w hSw; (try dsimp only at hSw); go_simp; (try with_reducible rfl))
                    simp only [List.setIfInBounds_toArray, List.set_cons_zero, List.set_cons_succ]
                    refine takeD (i := 5) (d := 103) (v := ?_) rfl rfl (by kernel_rfl) (by kernel_rfl) (by kernel_rfl) (fun _ _ _ h => h) (Or.inl ⟨by rfl, ?_⟩) hHeld ?_
                    rotate_left 1
                    · (intro w hSw; (try dsimp only at hSw); go_simp; (try with_reducible rfl))
                    simp only [List.setIfInBounds_toArray, List.set_cons_zero, List.set_cons_succ]
                    refine takeD (i := 6) (d := 104) (v := ?_) rfl rfl (by kernel_rfl) (by kernel_rfl) (by kernel_rfl) (fun _ _ _ h => h) (Or.inl ⟨by rfl, ?_⟩) hHeld ?_
                    rotate_left 1
                    · (intro w hSw; (try dsimp only at hSw); go_simp; (try with_reducible rfl))
                    simp only [List.setIfInBounds_toArray, List.set_cons_zero, List.set_cons_succ]
                    refine takeD (i := 7) (d := 105) (v := ?_) rfl rfl (by kernel_rfl) (by kernel_rfl) (by kernel_rfl) (fun _ _ _ h => h) (Or.inl ⟨by rfl, ?_⟩) hHeld ?_
                    rotate_left 1
                    · (intro w hSw; (try dsimp only at hSw); go_simp; (try with_reducible rfl))
                    simp only [List.setIfInBounds_toArray, List.set_cons_zero, List.set_cons_succ]
                    refine takeD (i := 8) (d := 106) (v := (.int .i64 ((S0.newest : Nat) : Int))) rfl rfl (by kernel_rfl) (by kernel_rfl) (by kernel_rfl) (fun _ _ _ h => h) (Or.inl ⟨by rfl, fun w hSw => ?_⟩) hHeld ?_
                    · have cst := hSw.1
                      go_simp
                    simp only [List.setIfInBounds_toArray, List.set_cons_zero, List.set_cons_succ]
                    refine takeD (i := 9) (d := 107) (v := .agg #[.int .u16 ((x'.id.val : Nat) : Int), .int .u32 ((x'.time.val : Nat) : Int), .int .u16 ((x'.gen.val : Nat) : Int), .int .u8 ((x'.st.val : Nat) : Int), .int .u8 ((x'.sen.val : Nat) : Int), .int .u8 ((x'.typ.val : Nat) : Int), .bool x'.de, .int .u8 ((x'.d0.val : Nat) : Int), .int .u8 ((x'.d1.val : Nat) : Int), .int .u8 ((x'.d2.val : Nat) : Int)]) rfl rfl (by kernel_rfl) (by kernel_rfl) (by kernel_rfl) (fun _ _ _ h => h) (yieldsIf_load_row rfl 37 (.tmp 3) rfl g3 rfl 37 x'.cells.toArray (0, 0) _ (fun w h => HBP.out.mods h.2 (fun h => by
                      simp only [List.mem_cons] at h
                      rcases h with h | h
                      · exact H3Q.out h
                      · exact H3V.out h)) Try.underlying37 rfl Try.sizeEv) hHeld ?_
                    simp only [List.setIfInBounds_toArray, List.set_cons_zero, List.set_cons_succ]
                    refine takeD (i := 10) (d := 108) (v := .agg #[.int .i64 ((S0.newest : Nat) : Int), .int .u16 ((x'.id.val : Nat) : Int), .int .u32 ((x'.time.val : Nat) : Int), .int .u16 ((x'.gen.val : Nat) : Int), .int .u8 ((x'.st.val : Nat) : Int), .int .u8 ((x'.sen.val : Nat) : Int), .int .u8 ((x'.typ.val : Nat) : Int), .bool x'.de, .int .u8 ((x'.d0.val : Nat) : Int), .int .u8 ((x'.d1.val : Nat) : Int), .int .u8 ((x'.d2.val : Nat) : Int)]) rfl rfl (by kernel_rfl) (by kernel_rfl) (by kernel_rfl) (fun _ _ _ h => h) (Or.inl ⟨by rfl, ?_⟩) hHeld ?_
                    · intro w hSw
                      (try dsimp only at hSw)
                      go_simp
                      try rfl
                    simp only [List.setIfInBounds_toArray, List.set_cons_zero, List.set_cons_succ]
                    refine wpAnyH_ready (rs := [4, 11]) (by kernel_rfl) (by simp) ?_
                    refine AllReadyH.cons rfl (fun K4 hK => ?_) (AllReadyH.cons rfl (fun K4 hK => ?_) AllReadyH.nil)
                    · have c8 : w6.drew.cell? ⟨q.b, 8, none⟩ = some v1 := (HLP.out.c 8).trans (show _ = some v1 from rfl)
                      go_simp
                      refine hK.out _ _ hHeld (fun hHeld => ?_)
                      clear hK K4 c8
                      refine wpAnyH_ready (rs := [11]) (by kernel_rfl) (by simp) ?_
                      refine AllReadyH.cons rfl (fun K4 hK => ?_) AllReadyH.nil
                      go_simp
                      have HMA := Lib.hid (show Mods [] w6 (w6.alloc (.cells #[.int .i64 ((S0.newest : Nat) : Int), .int .u16 ((x'.id.val : Nat) : Int), .int .u32 ((x'.time.val : Nat) : Int), .int .u16 ((x'.gen.val : Nat) : Int), .int .u8 ((x'.st.val : Nat) : Int), .int .u8 ((x'.sen.val : Nat) : Int), .int .u8 ((x'.typ.val : Nat) : Int), .bool x'.de, .int .u8 ((x'.d0.val : Nat) : Int), .int .u8 ((x'.d1.val : Nat) : Int), .int .u8 ((x'.d2.val : Nat) : Int)] 101)).drew from (Mods.refl.alloc _).drew)
                      have HBA := Lib.hid (show ((w6.alloc (.cells #[.int .i64 ((S0.newest : Nat) : Int), .int .u16 ((x'.id.val : Nat) : Int), .int .u32 ((x'.time.val : Nat) : Int), .int .u16 ((x'.gen.val : Nat) : Int), .int .u8 ((x'.st.val : Nat) : Int), .int .u8 ((x'.sen.val : Nat) : Int), .int .u8 ((x'.typ.val : Nat) : Int), .bool x'.de, .int .u8 ((x'.d0.val : Nat) : Int), .int .u8 ((x'.d1.val : Nat) : Int), .int .u8 ((x'.d2.val : Nat) : Int)] 101)).drew).heap[w6.heap.size]? = some (Obj.cells #[.int .i64 ((S0.newest : Nat) : Int), .int .u16 ((x'.id.val : Nat) : Int), .int .u32 ((x'.time.val : Nat) : Int), .int .u16 ((x'.gen.val : Nat) : Int), .int .u8 ((x'.st.val : Nat) : Int), .int .u8 ((x'.sen.val : Nat) : Int), .int .u8 ((x'.typ.val : Nat) : Int), .bool x'.de, .int .u8 ((x'.d0.val : Nat) : Int), .int .u8 ((x'.d1.val : Nat) : Int), .int .u8 ((x'.d2.val : Nat) : Int)] 101 (0, 0)) from heap_alloc_new w6 _)
                      have HCA := Lib.hid (show ((w6.alloc (.cells #[.int .i64 ((S0.newest : Nat) : Int), .int .u16 ((x'.id.val : Nat) : Int), .int .u32 ((x'.time.val : Nat) : Int), .int .u16 ((x'.gen.val : Nat) : Int), .int .u8 ((x'.st.val : Nat) : Int), .int .u8 ((x'.sen.val : Nat) : Int), .int .u8 ((x'.typ.val : Nat) : Int), .bool x'.de, .int .u8 ((x'.d0.val : Nat) : Int), .int .u8 ((x'.d1.val : Nat) : Int), .int .u8 ((x'.d2.val : Nat) : Int)] 101)).drew).cell? ⟨q.b, 4, none⟩ = some (.int .i64 ((S0.newest : Nat) : Int)) from ((HLP.out.mods0 HMA.out).c 4).trans rfl)
                      generalize (w6.alloc (.cells #[.int .i64 ((S0.newest : Nat) : Int), .int .u16 ((x'.id.val : Nat) : Int), .int .u32 ((x'.time.val : Nat) : Int), .int .u16 ((x'.gen.val : Nat) : Int), .int .u8 ((x'.st.val : Nat) : Int), .int .u8 ((x'.sen.val : Nat) : Int), .int .u8 ((x'.typ.val : Nat) : Int), .bool x'.de, .int .u8 ((x'.d0.val : Nat) : Int), .int .u8 ((x'.d1.val : Nat) : Int), .int .u8 ((x'.d2.val : Nat) : Int)] 101)).drew = wA at HMA HBA HCA ⊢
                      generalize w6.heap.size = gA at HBA ⊢
                      have hBA : B ≤ wA.heap.size := by have h1 := HMA.out.size; have h2 := HMP.out.size; have h3 := H.out.base; omega
                      refine hK.out _ _ ⟨HCA.out, HMA.out.nil⟩ (fun hHeld => ?_)
                      clear hK K4
                      refine wpAnyH_ready (rs := [12]) (by kernel_rfl) (by simp) ?_
                      refine AllReadyH.cons rfl (fun K4 hK => ?_) AllReadyH.nil
                      refine step_appAt recOk (by rfl) 110 rfl (.tmp 102) (.tmp 109) rfl (by rfl) (HLP.out.own.mods0 HMA.out) (by rfl) (RdE.one (a := ((S0.newest, x') : Nat × Evt)) HBA.out rfl) (by simp) (by have := HRC.out; simp; omega) hBA (fun VB WB OB MB HVB => ?_)
                      obtain ⟨gV, cV, hVB, _, _, _, _⟩ := OB.form (by simp)
                      obtain ⟨nV, hnV⟩ : ∃ n, n = (S0.recs ++ [(S0.newest, x')]).length := ⟨_, rfl⟩
                      replace hVB := hVB.trans (show _ = Value.slice (some ⟨gV, 0, none⟩) nV cV by rw [hnV])
                      subst hVB
                      clear hnV
                      have HOB := Lib.hid OB
                      have HMB := Lib.hid (show Mods v1.ownBlock.toList w6 WB from HMA.out.nil.trans MB)
                      have hz6 := HMA.out.size
                      have HVC := Lib.hid (show ∀ y, (Value.slice (some ⟨gV, 0, none⟩) nV cV).ownBlock = some y → q.v.ownBlock = some y ∨ g3 < y from fun y hy => by
                        have h5 := HZ6.out
                        rcases HVB y hy with h | h
                        · exact HY1.out y h
                        · exact .inr (by omega))
                      have HCB := Lib.hid (show WB.cell? ⟨q.b, 4, none⟩ = some (.int .i64 ((S0.newest : Nat) : Int)) from (cell_blk (HMB.out.heap HLP.out.blk HQV.out) 4).trans rfl)
                      clear OB MB HVB
                      refine hK.out _ _ ⟨HCB.out, HMB.out.mono (fun y hy => .inl (List.mem_cons_of_mem _ hy))⟩ (fun hHeld => ?_)
                      clear hK K4
                      simp only [List.setIfInBounds_toArray, List.set_cons_zero, List.set_cons_succ]
                      refine takeD (i := 13) (d := 111) (v := ?_) rfl rfl (by kernel_rfl) (by kernel_rfl) (by kernel_rfl) (fun _ _ _ h => h) (Or.inl ⟨by rfl, ?_⟩) hHeld ?_
                      rotate_left 1
                      · (intro w hSw; (try dsimp only at hSw); go_simp; (try with_reducible rfl))
                      simp only [List.setIfInBounds_toArray, List.set_cons_zero, List.set_cons_succ]
                      refine takeD (i := 14) (d := 112) (v := ?_) rfl rfl (by kernel_rfl) (by kernel_rfl) (by kernel_rfl) (fun _ _ _ h => h) (Or.inl ⟨by rfl, ?_⟩) hHeld ?_
                      rotate_left 1
                      · (intro w hSw; (try dsimp only at hSw); go_simp; (try with_reducible rfl))
                      simp only [List.setIfInBounds_toArray, List.set_cons_zero, List.set_cons_succ]
                      refine wpAnyH_ready (rs := [15]) (by kernel_rfl) (by simp) ?_
                      refine AllReadyH.cons rfl (fun K4 hK => ?_) AllReadyH.nil
                      have HRB := Lib.hid (HMB.out.heap HLP.out.blk HQV.out)
                      refine exec_storeOne rfl rfl rfl HRB.out rfl rfl (by show _ < 13; omega) Try.sizeSl (by rfl) (fun WC RC MC => ?_)
                      have HRC2 := Lib.hid RC
                      have HMC := Lib.hid (show Mods (q.b :: v1.ownBlock.toList) w6 WC from (HMB.out.mono (fun y hy => .inl (List.mem_cons_of_mem _ hy))).trans (MC.mono (fun y hy => .inl (by simp at hy; subst hy; simp))))
                      have HOC := Lib.hid (HOB.out.mods MC (fun y hy hm => by
                        have h1 := (HOB.out.lt y hy).1
                        have h2 := HLP.out.lt
                        simp only [List.mem_singleton] at hm h2
                        omega))
                      have HCC := Lib.hid (show WC.cell? ⟨q.b, 4, none⟩ = some (.int .i64 ((S0.newest : Nat) : Int)) from (cell_blk RC 4).trans rfl)
                      clear RC MC
                      refine hK.out _ _ ⟨HCC.out, HMC.out⟩ (fun hHeld => ?_)
                      clear hK K4
                      refine wpAnyH_done (by kernel_rfl) ?_ _
                      go_wp2_with fail
                      go_meet
                      refine ⟨.slice (some ⟨gV, 0, none⟩) nV cV, ⟨HRC2.out, HOC.out, HLP.out.lt⟩, HMC.out, HVC.out, HBP.out.mods HMC.out (by simpa using ⟨H3Q.out, fun h => H3V.out (by simpa using h)⟩)⟩
                    · go_simp
                      have HMA := Lib.hid (show Mods [] w6 (w6.alloc (.cells #[.int .i64 ((S0.newest : Nat) : Int), .int .u16 ((x'.id.val : Nat) : Int), .int .u32 ((x'.time.val : Nat) : Int), .int .u16 ((x'.gen.val : Nat) : Int), .int .u8 ((x'.st.val : Nat) : Int), .int .u8 ((x'.sen.val : Nat) : Int), .int .u8 ((x'.typ.val : Nat) : Int), .bool x'.de, .int .u8 ((x'.d0.val : Nat) : Int), .int .u8 ((x'.d1.val : Nat) : Int), .int .u8 ((x'.d2.val : Nat) : Int)] 101)).drew from (Mods.refl.alloc _).drew)
                      have HBA := Lib.hid (show ((w6.alloc (.cells #[.int .i64 ((S0.newest : Nat) : Int), .int .u16 ((x'.id.val : Nat) : Int), .int .u32 ((x'.time.val : Nat) : Int), .int .u16 ((x'.gen.val : Nat) : Int), .int .u8 ((x'.st.val : Nat) : Int), .int .u8 ((x'.sen.val : Nat) : Int), .int .u8 ((x'.typ.val : Nat) : Int), .bool x'.de, .int .u8 ((x'.d0.val : Nat) : Int), .int .u8 ((x'.d1.val : Nat) : Int), .int .u8 ((x'.d2.val : Nat) : Int)] 101)).drew).heap[w6.heap.size]? = some (Obj.cells #[.int .i64 ((S0.newest : Nat) : Int), .int .u16 ((x'.id.val : Nat) : Int), .int .u32 ((x'.time.val : Nat) : Int), .int .u16 ((x'.gen.val : Nat) : Int), .int .u8 ((x'.st.val : Nat) : Int), .int .u8 ((x'.sen.val : Nat) : Int), .int .u8 ((x'.typ.val : Nat) : Int), .bool x'.de, .int .u8 ((x'.d0.val : Nat) : Int), .int .u8 ((x'.d1.val : Nat) : Int), .int .u8 ((x'.d2.val : Nat) : Int)] 101 (0, 0)) from heap_alloc_new w6 _)
                      have HCA := Lib.hid (show ((w6.alloc (.cells #[.int .i64 ((S0.newest : Nat) : Int), .int .u16 ((x'.id.val : Nat) : Int), .int .u32 ((x'.time.val : Nat) : Int), .int .u16 ((x'.gen.val : Nat) : Int), .int .u8 ((x'.st.val : Nat) : Int), .int .u8 ((x'.sen.val : Nat) : Int), .int .u8 ((x'.typ.val : Nat) : Int), .bool x'.de, .int .u8 ((x'.d0.val : Nat) : Int), .int .u8 ((x'.d1.val : Nat) : Int), .int .u8 ((x'.d2.val : Nat) : Int)] 101)).drew).cell? ⟨q.b, 4, none⟩ = some (.int .i64 ((S0.newest : Nat) : Int)) from ((HLP.out.mods0 HMA.out).c 4).trans rfl)
                      generalize (w6.alloc (.cells #[.int .i64 ((S0.newest : Nat) : Int), .int .u16 ((x'.id.val : Nat) : Int), .int .u32 ((x'.time.val : Nat) : Int), .int .u16 ((x'.gen.val : Nat) : Int), .int .u8 ((x'.st.val : Nat) : Int), .int .u8 ((x'.sen.val : Nat) : Int), .int .u8 ((x'.typ.val : Nat) : Int), .bool x'.de, .int .u8 ((x'.d0.val : Nat) : Int), .int .u8 ((x'.d1.val : Nat) : Int), .int .u8 ((x'.d2.val : Nat) : Int)] 101)).drew = wA at HMA HBA HCA ⊢
                      generalize w6.heap.size = gA at HBA ⊢
                      have hBA : B ≤ wA.heap.size := by have h1 := HMA.out.size; have h2 := HMP.out.size; have h3 := H.out.base; omega
                      refine hK.out _ _ ⟨HCA.out, HMA.out.nil⟩ (fun hHeld => ?_)
                      clear hK K4
                      refine wpAnyH_ready (rs := [4]) (by kernel_rfl) (by simp) ?_
                      refine AllReadyH.cons rfl (fun K4 hK => ?_) AllReadyH.nil
                      have c8 : wA.cell? ⟨q.b, 8, none⟩ = some v1 := ((HLP.out.mods0 HMA.out).c 8).trans (show _ = some v1 from rfl)
                      go_simp
                      refine hK.out _ _ hHeld (fun hHeld => ?_)
                      clear hK K4 c8
                      refine wpAnyH_ready (rs := [12]) (by kernel_rfl) (by simp) ?_
                      refine AllReadyH.cons rfl (fun K4 hK => ?_) AllReadyH.nil
                      refine step_appAt recOk (by rfl) 110 rfl (.tmp 102) (.tmp 109) rfl (by rfl) (HLP.out.own.mods0 HMA.out) (by rfl) (RdE.one (a := ((S0.newest, x') : Nat × Evt)) HBA.out rfl) (by simp) (by have := HRC.out; simp; omega) hBA (fun VB WB OB MB HVB => ?_)
                      obtain ⟨gV, cV, hVB, _, _, _, _⟩ := OB.form (by simp)
                      obtain ⟨nV, hnV⟩ : ∃ n, n = (S0.recs ++ [(S0.newest, x')]).length := ⟨_, rfl⟩
                      replace hVB := hVB.trans (show _ = Value.slice (some ⟨gV, 0, none⟩) nV cV by rw [hnV])
                      subst hVB
                      clear hnV
                      have HOB := Lib.hid OB
                      have HMB := Lib.hid (show Mods v1.ownBlock.toList w6 WB from HMA.out.nil.trans MB)
                      have hz6 := HMA.out.size
                      have HVC := Lib.hid (show ∀ y, (Value.slice (some ⟨gV, 0, none⟩) nV cV).ownBlock = some y → q.v.ownBlock = some y ∨ g3 < y from fun y hy => by
                        have h5 := HZ6.out
                        rcases HVB y hy with h | h
                        · exact HY1.out y h
                        · exact .inr (by omega))
                      have HCB := Lib.hid (show WB.cell? ⟨q.b, 4, none⟩ = some (.int .i64 ((S0.newest : Nat) : Int)) from (cell_blk (HMB.out.heap HLP.out.blk HQV.out) 4).trans rfl)
                      clear OB MB HVB
                      refine hK.out _ _ ⟨HCB.out, HMB.out.mono (fun y hy => .inl (List.mem_cons_of_mem _ hy))⟩ (fun hHeld => ?_)
                      clear hK K4
                      simp only [List.setIfInBounds_toArray, List.set_cons_zero, List.set_cons_succ]
                      refine takeD (i := 13) (d := 111) (v := ?_) rfl rfl (by kernel_rfl) (by kernel_rfl) (by kernel_rfl) (fun _ _ _ h => h) (Or.inl ⟨by rfl, ?_⟩) hHeld ?_
                      rotate_left 1
                      · (intro w hSw; (try dsimp only at hSw); go_simp; (try with_reducible rfl))
                      simp only [List.setIfInBounds_toArray, List.set_cons_zero, List.set_cons_succ]
                      refine takeD (i := 14) (d := 112) (v := ?_) rfl rfl (by kernel_rfl) (by kernel_rfl) (by kernel_rfl) (fun _ _ _ h => h) (Or.inl ⟨by rfl, ?_⟩) hHeld ?_
                      rotate_left 1
                      · (intro w hSw; (try dsimp only at hSw); go_simp; (try with_reducible rfl))
                      simp only [List.setIfInBounds_toArray, List.set_cons_zero, List.set_cons_succ]
                      refine wpAnyH_ready (rs := [15]) (by kernel_rfl) (by simp) ?_
                      refine AllReadyH.cons rfl (fun K4 hK => ?_) AllReadyH.nil
                      have HRB := Lib.hid (HMB.out.heap HLP.out.blk HQV.out)
                      refine exec_storeOne rfl rfl rfl HRB.out rfl rfl (by show _ < 13; omega) Try.sizeSl (by rfl) (fun WC RC MC => ?_)
                      have HRC2 := Lib.hid RC
                      have HMC := Lib.hid (show Mods (q.b :: v1.ownBlock.toList) w6 WC from (HMB.out.mono (fun y hy => .inl (List.mem_cons_of_mem _ hy))).trans (MC.mono (fun y hy => .inl (by simp at hy; subst hy; simp))))
                      have HOC := Lib.hid (HOB.out.mods MC (fun y hy hm => by
                        have h1 := (HOB.out.lt y hy).1
                        have h2 := HLP.out.lt
                        simp only [List.mem_singleton] at hm h2
                        omega))
                      have HCC := Lib.hid (show WC.cell? ⟨q.b, 4, none⟩ = some (.int .i64 ((S0.newest : Nat) : Int)) from (cell_blk RC 4).trans rfl)
                      clear RC MC
                      refine hK.out _ _ ⟨HCC.out, HMC.out⟩ (fun hHeld => ?_)
                      clear hK K4
                      refine wpAnyH_done (by kernel_rfl) ?_ _
                      go_wp2_with fail
                      go_meet
                      refine ⟨.slice (some ⟨gV, 0, none⟩) nV cV, ⟨HRC2.out, HOC.out, HLP.out.lt⟩, HMC.out, HVC.out, HBP.out.mods HMC.out (by simpa using ⟨H3Q.out, fun h => H3V.out (by simpa using h)⟩)⟩
                  case rest =>
                    obtain ⟨VB, hLb, hMb, hVb, hEb⟩ := hcut
                    have HLB := Lib.hid hLb
                    have HVB := Lib.hid hVb
                    have HEB := Lib.hid hEb
                    have HMB := Lib.hid (show Mods (p.foot ++ q.foot) w wc from HMP.out.comp hMb (fun y hy => by
                      rcases List.mem_cons.1 hy with h | h
                      · subst h; exact .inl (by simp [LogAt.foot])
                      · rcases HY1.out y (by simpa using h) with h2 | h2
                        · exact .inl (by simp [LogAt.foot, h2])
                        · exact .inr (by omega)))
                    have HDB := Lib.hid (show IsDev wc p (putR G D1 S0 x').2 from HDP.out.mods hMb (fun k hk hm => HAP1.out k hk (by simpa [LogAt.foot] using hm)))
                    clear hLb hMb hVb hEb HLP HMP HBP HDP
                    generalize wc = w7 at HLB HMB HEB HDB ⊢
                    have c6 := (HLB.out.c 6).trans (show _ = some (Value.int .i64 (S0.used : Nat)) from rfl)
                    have f6 := HLB.out.f 6
                    have u0 : (0 : Int) ≤ ((S0.used : Nat) : Int) := by omega
                    have u1 : ((S0.used : Nat) : Int) ≤ 100 := by
                      have h1 := HU0.out
                      have h2 := HFI.out.ok.s1
                      have h3 := HSZ1.out
                      unfold Geo.slots at h1
                      omega
                    have HS6 := Lib.hid (HLB.out.set 6 (.int .i64 (((S0.used : Nat) : Int) + 1)) { L with s := { S0 with used := S0.used + 1, recs := S0.recs ++ [(S0.newest, x')] } } rfl rfl)
                    go_upto_region 19 with (fail)
                    have HL8 := Lib.hid HS6.out.1
                    have HM8 := Lib.hid (HMB.out.trans (HS6.out.2.mono (fun y hy => .inl (by simp at hy; subst hy; simp [LogAt.foot]))))
                    have HD8 := Lib.hid (HDB.out.mods HS6.out.2 HQP.out)
                    have HE8 := Lib.hid (HEB.out.mods HS6.out.2 (by simpa using H3Q.out))
                    clear c6 f6 u0 u1 HS6 HLB HMB HDB HEB
                    generalize w7.setCell ⟨q.b, 6, none⟩ (.int .i64 (((S0.used : Nat) : Int) + 1)) = w8 at HL8 HM8 HD8 HE8 ⊢
                    have cid := HE8.out.cs.1
                    rw [HX'.out] at cid
                    have c7 := (HL8.out.c 7).trans (show _ = some (Value.int .u16 (S0.next : Nat)) from rfl)
                    have f7 := HL8.out.f 7
                    have HBH := Lib.hid (fun W => behind_ok W S0.next HNX.out.2)
                    have HS7 := Lib.hid (HL8.out.set 7 (.int .u16 (behindN S0.next : Nat)) { L with s := moreS S0 x } (by rw [show moreS S0 x = ⟨S0.newest, S0.tail, S0.used + 1, behindN S0.next, S0.recs ++ [(S0.newest, x')]⟩ by rw [HXE.out]; rfl]; rfl) (by rw [show moreS S0 x = ⟨S0.newest, S0.tail, S0.used + 1, behindN S0.next, S0.recs ++ [(S0.newest, x')]⟩ by rw [HXE.out]; rfl]))
                    have HC9 := Lib.hid (((HE8.out.mods HS7.out.2 (by simpa using H3Q.out)).cs.1).trans (by rw [HX'.out]))
                    go_wp2_with fail
                    refine (HBH.out _).mono ?_
                    rintro e w' ⟨rfl, rfl⟩
                    have c9 := HC9.out
                    go_wp2_with fail
                    go_ret2
                    refine ⟨VB, by rw [HA.out]; rfl, by rw [HA.out]; exact HD8.out.mods HS7.out.2 HQP.out, by rw [HA.out]; exact .inl ⟨HE.out, HS7.out.1⟩, HM8.out.trans (HS7.out.2.mono (fun y hy => .inl (by simp at hy; subst hy; simp [LogAt.foot]))), fun y h => (HVB.out y h).imp id (fun h => by omega)⟩
                · have HA := Lib.hid (HAL.out.trans (if_pos hc))
                  have hcb : ((putR G D1 S0 x').1 != 0) = true := by simpa using hc
                  generalize putR G D1 S0 x' = R at HA HDP hc hcb
                  have HDN3 := Lib.hid (ldown_ok w6 ⟨q.b, v1⟩ B p R.2 HDP.out G.first G.n _ HLP.out HE.out)
                  go_wp2_with fail
                  refine HDN3.out.mono ?_
                  rintro e w7 ⟨rfl, h7⟩
                  have H7 := Lib.hid h7
                  clear h7
                  go_wp2_with fail
                  go_ret2
                  have h7 := H7.out
                  by_cases hdn2 : R.2.down = true
                  · rw [if_pos hdn2] at h7
                    refine ⟨.slice none 0 0, by rw [HA.out]; rfl, by rw [HA.out]; exact HDP.out.mods h7.2 HQP.out, by rw [HA.out]; exact .inr ⟨if_pos hdn2, rfl, h7.1⟩, HMP.out.trans (h7.2.mono (fun y hy => .inl (by simp at hy; subst hy; simp [LogAt.foot]))), fun y hy => by simp [Value.ownBlock] at hy⟩
                  · rw [if_neg hdn2] at h7
                    subst h7
                    have ho : orEnd R.2 { L with s := S0 } = { L with s := S0 } := if_neg hdn2
                    refine ⟨v1, by rw [HA.out]; rfl, by rw [HA.out]; exact HDP.out, by rw [HA.out]; exact .inl ⟨by show (orEnd R.2 { L with s := S0 }).ended = false; rw [ho]; exact HE.out, by show IsLog _ _ _ _ _ _ (orEnd R.2 { L with s := S0 }); rw [ho]; exact HLP.out⟩, HMP.out, fun y h => (HY1.out y h).imp id (fun h => by omega)⟩
end Go.Proofs.Ytkdadnlleepkfaa
