/- The law CatalogMay: its walk. -/
import Derived.Test.YtngpojfgmpdniaaMayG
namespace Go.Proofs.Ytngpojfgmpdniaa
open Go.RowKit
set_option maxRecDepth 100000
set_option maxHeartbeats 4000000 in
theorem law_may (k : Int) (actor schema table name role : ByteArray) (A : Option Addr) (n c : Nat) (rname : ByteArray) (rkind : Int) (A2 : Option Addr) (n2 c2 : Nat) (low high : Int) (rs rt rk : ByteArray) (right : Int) (opt : Bool) (w : World)
    (ha : actor.size ≤ maxLen) (hs : schema.size ≤ maxLen) (ht : table.size ≤ maxLen) (hn : name.size ≤ maxLen) (hr : role.size ≤ maxLen)
    (h1 : rname.size ≤ 140737488351232) (h2 : rs.size ≤ 140737488351232) (h3 : rt.size ≤ 140737488351232) (h4 : rk.size ≤ 140737488351232) (hc : n ≤ 9223372036854775807) (hc2 : n2 ≤ 9223372036854775807) :
    Calls Try.prog 4 #[.agg #[.int .i64 k, .string actor, .string schema, .string table, .string name, .string role, .slice A n c, .string rname, .int .i64 rkind, .slice A2 n2 c2, .int .i64 low, .int .i64 high, .string rs, .string rt, .string rk, .int .i64 right, .bool opt]] w fun e w' => e = .returned (.bool true) ∧ Aft w w' := by
  generalize hbig : (decide (1000 < n) || decide (1000 < n2)) = bg
  have Cbig := Lib.hid (fun w => hbig ▸ big_any k actor schema table name role A n c rname rkind A2 n2 c2 low high rs rt rk right opt w hc hc2)
  obtain ⟨m, hm⟩ : ∃ m, mayB k actor schema table name role n (bareB rname rkind n2 low high rs rt rk) right opt = m := ⟨_, rfl⟩
  have Cm := Lib.hid (fun w => hm ▸ may_any k actor schema table name role A n c rname rkind A2 n2 c2 low high rs rt rk right opt w ha hs ht hn hr h1 h2 h3 h4)
  have Rm := Lib.hid (fun w => hm ▸ rmay_any k actor schema table name role A n c rname rkind A2 n2 c2 low high rs rt rk right opt w ha hs ht hn hr h1 h2 h3 h4)
  have Cf := Lib.hid (fun w => fencing_any k actor schema table name role A n c rname rkind A2 n2 c2 low high rs rt rk right opt w m Cm)
  have Rf := Lib.hid (fun w => rfencing_any k actor schema table name role A n c rname rkind A2 n2 c2 low high rs rt rk right opt w m Rm)
  clear hm hbig ha hs ht hn hr h1 h2 h3 h4 hc hc2
  generalize hff : (m && fencesB k rkind) = ff at Cf Rf
  clear hff
  cases bg
  · go_enter Try.func4, Try.ntmps4
    go_wp2_with fail
    refine (Cbig.out _).mono ?_
    rintro e w1 ⟨rfl, a1⟩
    obtain ⟨hbox, hfr, hz, hzk, HA⟩ := aft_box a1
    clear a1
    go_wp2_with fail
    have hbl : ∀ (x : Lat w1) o, (lat w1 x).cell? ⟨w.heap.size, o, none⟩ = _ := fun x o => (cell?_lat w1 x _ o hz.1).trans (hbox o)
    refine wp_region_lat (by kernel_rfl) (by kernel_rfl) ?_
    repeat (go_big_quiet_step ((first | (go_at_call 13; exact Calls.lat_of (mayEx_any _)) | (go_at_call 14; exact Calls.lat_of (Cm.out _)) | (go_at_call 15; exact Calls.lat_of (Rm.out _)) | (go_at_call 16; exact Calls.lat_of (Cf.out _)) | (go_at_call 17; exact Calls.lat_of (Rf.out _)))))
    refine wpQuiet_nil ?_
    intro _ hw'
    obtain ⟨x, hw''⟩ := hw'
    subst hw''
    go_wp2_with fail
    go_ret
    exact ⟨by simp, HA.out.lat x⟩
  · go_enter Try.func4, Try.ntmps4
    go_wp2_with fail
    refine (Cbig.out _).mono ?_
    rintro e w1 ⟨rfl, a1⟩
    obtain ⟨hbox, hfr, hz, hzk, HA⟩ := aft_box a1
    clear a1
    go_wp2_with fail
    go_ret
    exact ⟨rfl, HA.out⟩
end Go.Proofs.Ytngpojfgmpdniaa
