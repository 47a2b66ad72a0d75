/-
  Contracts and plain laws that this claim leans on, part 5.
-/
import Derived.Test.YtfkojnofbpdjdaaGreatDoorPackB4
import Derived.Test.YtfkojnofbpdjdaaGreatDoorPackB2
import Derived.Test.YtfkojnofbpdjdaaGreatDoorPackB1
import Derived.Lib.SliceRun
import Derived.Test.YtfkojnofbpdjdaaGreatDoorPackB3
import Derived.Deep.LoopGhost
set_option linter.unusedVariables false
set_option linter.unusedSimpArgs false
set_option maxHeartbeats 16000000
set_option maxRecDepth 100000
namespace Go.Proofs.YtfkojnofbpdjdaaGreatDoor
open Tryz
open Go.RowKit
theorem Z1f (m fmt:Int) (hf:D1 fmt) (ps:List Pt) (hs:Y0x m fmt (ofL (Y0 ps)) ps) (A:Option Addr) (c:Nat) (w:World) (hm:w.cell? ⟨0,0,none⟩=some (.int .i64 m)) (h:RdE ptC 3 w (.slice A ps.length c) ps) (hl:ps.length≤100000) (hsz:(Y0 ps).length≤1000000):
 Calls prog 65 #[.agg #[.int .i64 fmt,.slice A ps.length c]] w (fun e w'=>e=.returned (.int .i64 0)∧Below w.heap.size w w'):=by
 have CK:=zW (fun w=>X4b fmt hf w);have CB:=zW (fun (w':World) (h:RdE ptC 3 w' (.slice A ps.length c) ps)=>Q4b fmt ps A c w' h hl hsz);have CP:=zW (fun w hm=>X7i m fmt hf (ofL (Y0 ps)) ps hs w hm);have CE:=zW (fun (va vb:Value) (w':World) (h1:RdE ptC 3 w' va ps) (h2:RdE ptC 3 w' vb ps)=>Z1h ps va vb w' h1 h2 yY);have HM:=zW hm;have HP:=zW h;have he:=zW (((aB w.heap.size w).alloc yQ (.cells #[.int .i64 fmt,.slice A ps.length c] 41)).drew);have hc:yK ((w.alloc (.cells #[.int .i64 fmt,.slice A ps.length c] 41)).drew.heap[w.heap.size]? =some (.cells #[.int .i64 fmt,.slice A ps.length c] 41)):=aT w _;generalize ofL (Y0 ps)=data at *;clear h hm hs;go_enter func65,ntmps65
 go_wp2_with (first
  | (go_at_call 55;refine (CK.o _).mono ?_;rintro e w' ⟨rfl,rfl⟩))
 obtain ⟨g,ha⟩:∃ g,yK (w.heap.size=g):=⟨_,rfl⟩;rw [ha.o] at hc;rw [ha.o];have hd:w.heap.size≤g:=fP ha.o;refine zqR (l0:=bL 13 0) 13 kr ?_;show let o:=_;let q:=_;let a0:=_;wpAny prog _ o q _ _ a0 _
 intro o q a0;let a_:Act:=a0.put (some 11) (.pointer (some ⟨g,0,none⟩))
 let a_0:Act:=a_.put (some 12) (.int .i64 fmt)
 let a_1:Act:=a_.put (some 13) (.agg #[.int .i64 fmt,.slice A ps.length c])
 let a_4:Nat→Act:=fun g3=>a_.put (some 3) (.pointer (some ⟨g3,0,none⟩))
 let a_01:Act:=a_0.put (some 13) (.agg #[.int .i64 fmt,.slice A ps.length c])
 let a_04:Nat→Act:=fun g3=>a_0.put (some 3) (.pointer (some ⟨g3,0,none⟩))
 let a_12:Act:=a_1.put (some 14) (.string data)
 let a_14:Nat→Act:=fun g3=>a_1.put (some 3) (.pointer (some ⟨g3,0,none⟩))
 let a_012:Act:=a_01.put (some 14) (.string data)
 let a_014:Nat→Act:=fun g3=>a_01.put (some 3) (.pointer (some ⟨g3,0,none⟩))
 let a_124:Nat→Act:=fun g3=>a_12.put (some 3) (.pointer (some ⟨g3,0,none⟩))
 let a_0123:Option Addr→Nat→Act:=fun A2 c2=>((((a_012.put (some 15) (.tuple #[.agg #[.int .i64 fmt,.slice A2 ps.length c2],.int .i64 0,.int .i64 0])).put (some 10) (.tuple #[.agg #[.int .i64 fmt,.slice A2 ps.length c2],.int .i64 0,.int .i64 0])).put (some 16) (.agg #[.int .i64 fmt,.slice A2 ps.length c2])).put (some 17) (.int .i64 0)).put (some 18) (.int .i64 0)
 let a_0124:Nat→Act:=fun g3=>a_012.put (some 3) (.pointer (some ⟨g3,0,none⟩))
 let a_01234:Option Addr→Nat→Nat→Act:=fun A2 c2 g3=>(a_0123 A2 c2).put (some 3) (.pointer (some ⟨g3,0,none⟩))
 let a_012345:Option Addr→Nat→Nat→Act:=fun A2 c2 g3=>((a_01234 A2 c2 g3).put (some 4) (.int .i64 0)).put (some 5) (.int .i64 0)
 have S012345:∀ (W:World) (A2:Option Addr) (c2:Nat) (g3:Nat),Below w.heap.size w W→W.heap[g]? =some (.cells #[.int .i64 fmt,.slice A ps.length c] 41)→W.heap[g3]? =some (.cells #[.int .i64 fmt,.slice A2 ps.length c2] 41)→OwnE 52 ptC 3 W w.heap.size (.slice A2 ps.length c2) ps→wpAny prog .any o q 0 (bL 13 8191) (a_012345 A2 c2 g3) W:=by
  intro W A2 c2 g3 HB HX HG HO;simp only [a_012345,a_01234,a_0123,a_012,a_01,a_0,a_,a0,Act.put,zZ,zY,zX];refine bW yZ ?_ _;simp only [q];obtain ⟨x0,x1,_⟩:=bx2 HX;obtain ⟨z0,z1,_⟩:=bx2 HG;have hh:=zW HB;have hg:=zW (OwnE.rd D3 HO);have CEE:=zW (CE.o _ _ W hg.o (RdE.below HP.o HB yQ));clear HB HX HG HO;go_wp2_with (go_at_call 105;refine (CEE.o).mono ?_;rintro e w9 ⟨rfl,n9,rfl⟩)
  go_ret
  exact ⟨rfl,Q1 hh.o _⟩
 have S01234:∀ (W:World) (A2:Option Addr) (c2:Nat) (g3:Nat),Below w.heap.size w W→W.heap[g]? =some (.cells #[.int .i64 fmt,.slice A ps.length c] 41)→W.heap[g3]? =some (.cells #[.int .i64 0,.slice none 0 0] 41)→g < g3→OwnE 52 ptC 3 W w.heap.size (.slice A2 ps.length c2) ps→wpAny prog .any o q 3 (bL 13 1023) (a_01234 A2 c2 g3) W:=by
  intro W A2 c2 g3 HB HX HG hg3 HO;simp only [a_01234,a_0123,a_012,a_01,a_0,a_,a0,Act.put,zZ,zY,zX];refine zqo 10 rfl ?_;refine X4z (.tmp 3) (.tmp 16) rfl rfl g3 fmt A2 ps.length c2 yZ yZ HG ?_;refine zqG 11 4 (.int .i64 0) rfl ?_;refine zqG 12 5 (.int .i64 0) rfl ?_;exact zqX (S012345 ((W.setCell ⟨g3,0,none⟩ (.int .i64 fmt)).setCell ⟨g3,1,none⟩ (.slice A2 ps.length c2)) A2 c2 g3 ((HB.setCell (p:=⟨g3,0,none⟩) (aP hd (cS hg3)) _).setCell (p:=⟨g3,1,none⟩) (aP hd (cS hg3)) _) ((O3 (Nat.ne_of_lt hg3)).trans HX) (Q8x HG) (Q7 HO fun j hj=>O3 (fun e=>Y1 HO HG yX j hj e)))
 have S0123:∀ (W:World) (A2:Option Addr) (c2:Nat),Below w.heap.size w W→W.heap[g]? =some (.cells #[.int .i64 fmt,.slice A ps.length c] 41)→OwnE 52 ptC 3 W w.heap.size (.slice A2 ps.length c2) ps→wpAny prog .any o q 4 (bL 13 511) (a_0123 A2 c2) W:=by
  intro W A2 c2 HB HX HO;simp only [a_0123,a_012,a_01,a_0,a_,a0,Act.put,zZ,zY,zX];refine zqo 9 rfl ?_;refine X1 (J2 rfl) ?_;exact zqX (S01234 (W.alloc (.cells #[.int .i64 0,.slice none 0 0] 41)) A2 c2 W.heap.size (HB.trans (((aB W.heap.size W).alloc yQ _).mono HB.size)) (Q9 HX ((aB W.heap.size W).alloc yQ _)) (aT W _) (J5 HX) (Q7h HO ((aB W.heap.size W).alloc yQ _)))
 have S0124:∀ (W:World) (g3:Nat),Below w.heap.size w W→W.heap[g]? =some (.cells #[.int .i64 fmt,.slice A ps.length c] 41)→W.heap[g3]? =some (.cells #[.int .i64 0,.slice none 0 0] 41)→g < g3→wpAny prog .any o q 8 (bL 13 527) (a_0124 g3) W:=by
  intro W g3 HB HX HG hg3;simp only [a_0124,a_012,a_01,a_0,a_,a0,Act.put,zZ,zY,zX];refine zqo 4 rfl ?_;refine Q0s (.int .i64 fmt) (.string data) rfl func28 (CP.o W (X8 HM.o HB)) ?_;rintro e W5 ⟨A2,c2,rfl,ho,hb⟩;refine ⟨.tuple #[.agg #[.int .i64 fmt,.slice A2 ps.length c2],.int .i64 0,.int .i64 0],rfl,?_⟩;refine zqM 5 10 (.tuple #[.agg #[.int .i64 fmt,.slice A2 ps.length c2],.int .i64 0,.int .i64 0]) rfl ?_;refine zqE 6 16 (.agg #[.int .i64 fmt,.slice A2 ps.length c2]) rfl rfl ?_;refine zqE 7 17 (.int .i64 0) rfl rfl ?_;refine zqE 8 18 (.int .i64 0) rfl rfl ?_;exact zqX (S01234 W5 A2 c2 g3 (HB.trans (hb.mono HB.size)) (Q9 HX hb) (Q9 HG hb) hg3 (Y3 ho HB.size))
 have S012:∀ (W:World),Below w.heap.size w W→W.heap[g]? =some (.cells #[.int .i64 fmt,.slice A ps.length c] 41)→wpAny prog .any o q 9 (bL 13 15) a_012 W:=by
  intro W HB HX;simp only [a_012,a_01,a_0,a_,a0,Act.put,zZ,zY,zX];refine zqt 4 9 rfl rfl ?_ ?_
  ·refine Q0s (.int .i64 fmt) (.string data) rfl func28 (CP.o W (X8 HM.o HB)) ?_;rintro e W5 ⟨A2,c2,rfl,ho,hb⟩;refine ⟨.tuple #[.agg #[.int .i64 fmt,.slice A2 ps.length c2],.int .i64 0,.int .i64 0],rfl,?_⟩;refine zqM 5 10 (.tuple #[.agg #[.int .i64 fmt,.slice A2 ps.length c2],.int .i64 0,.int .i64 0]) rfl ?_;refine zqE 6 16 (.agg #[.int .i64 fmt,.slice A2 ps.length c2]) rfl rfl ?_;refine zqE 7 17 (.int .i64 0) rfl rfl ?_;refine zqE 8 18 (.int .i64 0) rfl rfl ?_;exact zqX (S0123 W5 A2 c2 (HB.trans (hb.mono HB.size)) (Q9 HX hb) (Y3 ho HB.size))
  ·refine X1 (J2 rfl) ?_;exact zqX (S0124 (W.alloc (.cells #[.int .i64 0,.slice none 0 0] 41)) W.heap.size (HB.trans (((aB W.heap.size W).alloc yQ _).mono HB.size)) (Q9 HX ((aB W.heap.size W).alloc yQ _)) (aT W _) (J5 HX))
 have S014:∀ (W:World) (g3:Nat),Below w.heap.size w W→W.heap[g]? =some (.cells #[.int .i64 fmt,.slice A ps.length c] 41)→W.heap[g3]? =some (.cells #[.int .i64 0,.slice none 0 0] 41)→g < g3→wpAny prog .any o q 9 (bL 13 519) (a_014 g3) W:=by
  intro W g3 HB HX HG hg3;simp only [a_014,a_01,a_0,a_,a0,Act.put,zZ,zY,zX];refine zqo 3 rfl ?_;refine Q1r (.agg #[.int .i64 fmt,.slice A ps.length c]) rfl func24 (CB.o W (RdE.below HP.o HB yQ)) ?_;rintro e W5 ⟨rfl,hb⟩;refine ⟨.string data,rfl,?_⟩;exact zqX (S0124 W5 g3 (HB.trans (hb.mono HB.size)) (Q9 HX hb) (Q9 HG hb) hg3)
 have S124:∀ (W:World) (g3:Nat),Below w.heap.size w W→W.heap[g]? =some (.cells #[.int .i64 fmt,.slice A ps.length c] 41)→W.heap[g3]? =some (.cells #[.int .i64 0,.slice none 0 0] 41)→g < g3→wpAny prog .any o q 9 (bL 13 525) (a_124 g3) W:=by
  intro W g3 HB HX HG hg3;simp only [a_124,a_12,a_1,a_,a0,Act.put,zZ,zY,zX];refine zqo 1 rfl ?_;refine zqL (.int .i64 fmt) rfl (.pointer (some ⟨g,0,none⟩)) (F3 (bx2 HX).1) ?_;exact zqX (S0124 W g3 HB HX HG hg3)
 have S01:∀ (W:World),Below w.heap.size w W→W.heap[g]? =some (.cells #[.int .i64 fmt,.slice A ps.length c] 41)→wpAny prog .any o q 10 (bL 13 7) a_01 W:=by
  intro W HB HX;simp only [a_01,a_0,a_,a0,Act.put,zZ,zY,zX];refine zqt 3 9 rfl rfl ?_ ?_
  ·refine Q1r (.agg #[.int .i64 fmt,.slice A ps.length c]) rfl func24 (CB.o W (RdE.below HP.o HB yQ)) ?_;rintro e W5 ⟨rfl,hb⟩;refine ⟨.string data,rfl,?_⟩;exact zqX (S012 W5 (HB.trans (hb.mono HB.size)) (Q9 HX hb))
  ·refine X1 (J2 rfl) ?_;exact zqX (S014 (W.alloc (.cells #[.int .i64 0,.slice none 0 0] 41)) W.heap.size (HB.trans (((aB W.heap.size W).alloc yQ _).mono HB.size)) (Q9 HX ((aB W.heap.size W).alloc yQ _)) (aT W _) (J5 HX))
 have S04:∀ (W:World) (g3:Nat),Below w.heap.size w W→W.heap[g]? =some (.cells #[.int .i64 fmt,.slice A ps.length c] 41)→W.heap[g3]? =some (.cells #[.int .i64 0,.slice none 0 0] 41)→g < g3→wpAny prog .any o q 10 (bL 13 515) (a_04 g3) W:=by
  intro W g3 HB HX HG hg3;simp only [a_04,a_0,a_,a0,Act.put,zZ,zY,zX];refine zqo 2 rfl ?_;refine zqL (.agg #[.int .i64 fmt,.slice A ps.length c]) rfl (.pointer (some ⟨g,0,none⟩)) (Q0u (bx2 HX).1 (bx2 HX).2.1) ?_;exact zqX (S014 W g3 HB HX HG hg3)
 have S12:∀ (W:World),Below w.heap.size w W→W.heap[g]? =some (.cells #[.int .i64 fmt,.slice A ps.length c] 41)→wpAny prog .any o q 10 (bL 13 13) a_12 W:=by
  intro W HB HX;simp only [a_12,a_1,a_,a0,Act.put,zZ,zY,zX];refine zqt 1 9 rfl rfl ?_ ?_
  ·refine zqL (.int .i64 fmt) rfl (.pointer (some ⟨g,0,none⟩)) (F3 (bx2 HX).1) ?_;exact zqX (S012 W HB HX)
  ·refine X1 (J2 rfl) ?_;exact zqX (S124 (W.alloc (.cells #[.int .i64 0,.slice none 0 0] 41)) W.heap.size (HB.trans (((aB W.heap.size W).alloc yQ _).mono HB.size)) (Q9 HX ((aB W.heap.size W).alloc yQ _)) (aT W _) (J5 HX))
 have S14:∀ (W:World) (g3:Nat),Below w.heap.size w W→W.heap[g]? =some (.cells #[.int .i64 fmt,.slice A ps.length c] 41)→W.heap[g3]? =some (.cells #[.int .i64 0,.slice none 0 0] 41)→g < g3→wpAny prog .any o q 10 (bL 13 517) (a_14 g3) W:=by
  intro W g3 HB HX HG hg3;simp only [a_14,a_1,a_,a0,Act.put,zZ,zY,zX];refine zqt 1 3 rfl rfl ?_ ?_
  ·refine zqL (.int .i64 fmt) rfl (.pointer (some ⟨g,0,none⟩)) (F3 (bx2 HX).1) ?_;exact zqX (S014 W g3 HB HX HG hg3)
  ·refine Q1r (.agg #[.int .i64 fmt,.slice A ps.length c]) rfl func24 (CB.o W (RdE.below HP.o HB yQ)) ?_;rintro e W5 ⟨rfl,hb⟩;refine ⟨.string data,rfl,?_⟩;exact zqX (S124 W5 g3 (HB.trans (hb.mono HB.size)) (Q9 HX hb) (Q9 HG hb) hg3)
 have S0:∀ (W:World),Below w.heap.size w W→W.heap[g]? =some (.cells #[.int .i64 fmt,.slice A ps.length c] 41)→wpAny prog .any o q 11 (bL 13 3) a_0 W:=by
  intro W HB HX;simp only [a_0,a_,a0,Act.put,zZ,zY,zX];refine zqt 2 9 rfl rfl ?_ ?_
  ·refine zqL (.agg #[.int .i64 fmt,.slice A ps.length c]) rfl (.pointer (some ⟨g,0,none⟩)) (Q0u (bx2 HX).1 (bx2 HX).2.1) ?_;exact zqX (S01 W HB HX)
  ·refine X1 (J2 rfl) ?_;exact zqX (S04 (W.alloc (.cells #[.int .i64 0,.slice none 0 0] 41)) W.heap.size (HB.trans (((aB W.heap.size W).alloc yQ _).mono HB.size)) (Q9 HX ((aB W.heap.size W).alloc yQ _)) (aT W _) (J5 HX))
 have S1:∀ (W:World),Below w.heap.size w W→W.heap[g]? =some (.cells #[.int .i64 fmt,.slice A ps.length c] 41)→wpAny prog .any o q 11 (bL 13 5) a_1 W:=by
  intro W HB HX;simp only [a_1,a_,a0,Act.put,zZ,zY,zX];refine zqh 1 3 9 rfl rfl rfl ?_ ?_ ?_
  ·refine zqL (.int .i64 fmt) rfl (.pointer (some ⟨g,0,none⟩)) (F3 (bx2 HX).1) ?_;exact zqX (S01 W HB HX)
  ·refine Q1r (.agg #[.int .i64 fmt,.slice A ps.length c]) rfl func24 (CB.o W (RdE.below HP.o HB yQ)) ?_;rintro e W5 ⟨rfl,hb⟩;refine ⟨.string data,rfl,?_⟩;exact zqX (S12 W5 (HB.trans (hb.mono HB.size)) (Q9 HX hb))
  ·refine X1 (J2 rfl) ?_;exact zqX (S14 (W.alloc (.cells #[.int .i64 0,.slice none 0 0] 41)) W.heap.size (HB.trans (((aB W.heap.size W).alloc yQ _).mono HB.size)) (Q9 HX ((aB W.heap.size W).alloc yQ _)) (aT W _) (J5 HX))
 have S4:∀ (W:World) (g3:Nat),Below w.heap.size w W→W.heap[g]? =some (.cells #[.int .i64 fmt,.slice A ps.length c] 41)→W.heap[g3]? =some (.cells #[.int .i64 0,.slice none 0 0] 41)→g < g3→wpAny prog .any o q 11 (bL 13 513) (a_4 g3) W:=by
  intro W g3 HB HX HG hg3;simp only [a_4,a_,a0,Act.put,zZ,zY,zX];refine zqt 1 2 rfl rfl ?_ ?_
  ·refine zqL (.int .i64 fmt) rfl (.pointer (some ⟨g,0,none⟩)) (F3 (bx2 HX).1) ?_;exact zqX (S04 W g3 HB HX HG hg3)
  ·refine zqL (.agg #[.int .i64 fmt,.slice A ps.length c]) rfl (.pointer (some ⟨g,0,none⟩)) (Q0u (bx2 HX).1 (bx2 HX).2.1) ?_;exact zqX (S14 W g3 HB HX HG hg3)
 have S:∀ (W:World),Below w.heap.size w W→W.heap[g]? =some (.cells #[.int .i64 fmt,.slice A ps.length c] 41)→wpAny prog .any o q 13 (bL 13 0) a0 W:=by
  intro W HB HX;simp only [a0,Act.put,zZ,zY,zX];refine zqF 0 11 (.pointer (some ⟨g,0,none⟩)) rfl rfl (.pointer (some ⟨g,0,none⟩)) ?_;simp only [Act.put,zZ,zY,zX];refine zqh 1 2 9 rfl rfl rfl ?_ ?_ ?_
  ·refine zqL (.int .i64 fmt) rfl (.pointer (some ⟨g,0,none⟩)) (F3 (bx2 HX).1) ?_;exact zqX (S0 W HB HX)
  ·refine zqL (.agg #[.int .i64 fmt,.slice A ps.length c]) rfl (.pointer (some ⟨g,0,none⟩)) (Q0u (bx2 HX).1 (bx2 HX).2.1) ?_;exact zqX (S1 W HB HX)
  ·refine X1 (J2 rfl) ?_;exact zqX (S4 (W.alloc (.cells #[.int .i64 0,.slice none 0 0] 41)) W.heap.size (HB.trans (((aB W.heap.size W).alloc yQ _).mono HB.size)) (Q9 HX ((aB W.heap.size W).alloc yQ _)) (aT W _) (J5 HX))
 exact S _ he.o hc.o
theorem Q6o (m fmt:Int) (hf:D1 fmt) (ps:List Pt) (f:List Tk) (k:Nat) (hk:k < ps.length) (hun:ps[k].un=true) (hd:Y0w m fmt ps[k].raw f) (A:Option Addr) (c:Nat) (w:World) (hm:w.cell? ⟨0,0,none⟩=some (.int .i64 m)) (h:RdE ptC 3 w (.slice A ps.length c) ps) (hl:ps.length≤100000):
 Calls prog 27 #[.agg #[.int .i64 fmt,.slice A ps.length c],.int .i64 k] w (X0q f w):=by
 have CK:=zW (fun w=>X4b fmt hf w);have CD:=zW (fun w hm=>Z4s fmt hf ps[k].raw f w (hd w hm));have HM:=zW hm;have HA:=zW ((aB w.heap.size w).alloc yQ (.cells #[.int .i64 fmt,.slice A ps.length c] 41));obtain ⟨b,o,rfl,hb,c0,c1,c2⟩:=RdP.at_ (h.below HA.o yQ) k hk;rw [hun] at c0;generalize ps[k].raw=x2 at *;generalize ps[k].key=x1 at *;clear h hd hm hun;go_enter func27,ntmps27
 go_wp2_with (first
  | (go_at_call 55;refine (CK.o _).mono ?_;rintro e w' ⟨rfl,rfl⟩))
 go_region_with (go_at_call 56;refine (CD.o _ (by exact X8 HM.o (Q1 HA.o 1))).mono ?_;rintro e w1 ⟨v,rfl,ho,hb⟩;obtain ⟨A2,c2,rfl⟩:=Q0 ho;have hz:=HA.o.size;have HO:=zW (Y3 ho hz);have HB:=zW ((Q1 HA.o 1).trans (hb.mono hz));clear ho hb)
 all_goals (
  go_wp2_with fail
  go_ret2
  exact ⟨_,rfl,HO.o,HB.o⟩)
theorem Q9t (f:List Tk) (v:Value) (w:World) (h1:RdT w v f) (hl:X3 f≤1000000000) (hfl:f.length≤1000000):
 Calls prog 60 #[v] w fun e w'=>e=.returned (.string (plS f))∧Below w.heap.size w w':=by
 obtain ⟨A,c,rfl,_,_⟩:=h1.shape;have H1:=zW h1;clear h1;obtain ⟨i8,hm,hp,ho,hi⟩:=fF X3b;have ht:=zW hm;have hy:=zW hp;have hv:=zW ho;have hr:=zW hi;clear hm hp ho hi;go_enter func60,ntmps60
 go_wp2_with fail
 obtain ⟨wo,hw⟩:∃ wo,yK (wo=w):=⟨w,rfl⟩;go_loopg [3,5,8] f.length (fun gk bv xv jv wr=>∃ (k:Nat) (bs:fY),jv=.int .i64 k∧k≤f.length∧yK (bs=plS (f.take k))∧yK (wr.ownsRow w.heap.size 5 1 bv bs.size (Go.Lib.strCells bs))∧yK (Below w.heap.size w wr)∧f.length - k≤gk)
 case atStart=>exact ⟨0,⟨#[]⟩,rfl,aO _,by (show _=_);rw [cW];rfl,eN _ _ _ _,aB _ _,yY⟩
 case round=>
  clear hw;obtain ⟨k,bs,rfl,hk,HS,HO,HB,hgk⟩:=hrel;obtain ⟨A2,c2,hF⟩:=Q0 HO.o;subst hF;have hJ:=HB.o.size;by_cases hkl:k < f.length
  ·have hI:(k:Int) < (f.length:Int):=yY;have hH:(0:Int)≤(k:Int):=yY;obtain ⟨b,o,rfl,hf,q1,q2,q3⟩:=RdT.at_ H1.o k hkl;rw [←HB.o.cell (p:=⟨b,o+k * 3,none⟩) hf] at q1;rw [←HB.o.cell (p:=⟨b,o+k * 3+1,none⟩) hf] at q2;rw [←HB.o.cell (p:=⟨b,o+k * 3+2,none⟩) hf] at q3;have hC:b < wr.heap.size:=yY;have hE:bs.size≤X3 (f.take k):=by
    rw [HS.o,Q7j];exact X2a _
   have hn:=Q5q f (k+1);rw [R2 f k hkl] at hn;have hb:bs.size+wdI f[k]≤1000000000:=yY;unfold wdI at hb;clear hn hE;have c1:=zW (V4q f k hkl);have c5:=zW (V4p f k hkl);have c0:=zW (V4o f k hkl);rw [←HS.o] at c1 c5 c0;generalize f[k]=x at q1 q2 q3 hb c1 c5 c0;obtain ⟨xk,xt,xd⟩:=x;simp only at q1 q2 q3 hb c1 c5 c0;have he:=zW ((aB wr.heap.size wr).alloc yQ (.cells #[.int .i64 xk,.string xt,.int .i64 xd] 31));have HX:yK ((wr.alloc (.cells #[.int .i64 xk,.string xt,.int .i64 xd] 31)).heap[wr.heap.size]? =some (.cells #[.int .i64 xk,.string xt,.int .i64 xd] 31)):=aT wr _;go_upto_region 5 with fail
   generalize wr.alloc (.cells #[.int .i64 xk,.string xt,.int .i64 xd] 31)=w1 at he HX ⊢;obtain ⟨g,hg⟩:∃ g,yK (g=wr.heap.size):=⟨_,rfl⟩;rw [←hg.o] at HX ⊢;have hG:g < w1.heap.size:=(aN.1 HX.o).1;clear q1 q2 q3;obtain ⟨x0,x1,x2,_⟩:=bx3 HX.o;have hd:=zW (U1 HO.o he.o yQ);have hc:=zW (HB.o.trans (he.o.mono HB.o.size));have hh:=hc.o.size;by_cases hx:xk=1
   ·subst hx;simp only [if_true] at hb;have hK:xt.size≤1000000000:=yY;go_wp2_with (at_builtin;go_must (refine Go.Lib.wpList_append_own_string _ rfl (.tmp 16) (.tmp 18) 89 9 rfl w.heap.size 5 i8 underlying89 underlying9 ht.o hy.o hv.o hr.o _ bs.size _ rfl (by exact hd.o) xt rfl (by unfold maxLen;omega) yY (by exact hh) ?_);intro v7 w7 hown7 hgr7 _)
    have hA:=hc.o.grown hgr7 (by exact hh) (fun q hq=>(hd.o.lt q hq).1);rw [L6] at hown7;have ha:yK (w7.ownsRow w.heap.size 5 1 v7 (bs++xt).size (Go.Lib.strCells (bs++xt))):=by
     show World.ownsRow _ _ _ _ _ _ _;rw [bD];exact hown7
    go_roundg (f.length - (k+1))
    case measure=>omega
    case rel=>exact ⟨k+1,bs++xt,rfl,yY,c1.o (by first | trivial | rfl),ha.o,hA,yY⟩
   ·rw [aE hx] at hb;have t1:(xk==1)=false:=(by simpa using hx);by_cases h5:xk=5
    ·subst h5;go_wp2_with (at_builtin;go_must (refine Z7 rfl (.tmp 22) (.tmp 23) 89 5 rfl underlying89 _ 1 1 X3b rfl yX w.heap.size _ bs.size _ rfl (by exact aD hd.o _) ⟨w1.heap.size,0,none⟩ 1 [.int .u8 255] rfl rfl (by exact T6 _ _ rfl _ _) (by intro u hu;rw [aJ.1 hu];rfl) yY yX yV ?_);intro g9 cap9 w9 hown9 hg9 hbel9 hgr9)
     have hs:=zW (hbel9 w.heap.size w yQ (hc.o.alloc hh _));have e255:Go.Lib.strCells bs++[Value.int .u8 255]=Go.Lib.strCells (bs++(⟨#[255]⟩:fY)):=by
      rw [←L6];rfl
     rw [e255] at hown9;have ha:yK (w9.ownsRow w.heap.size 5 1 (.slice (some ⟨g9,0,none⟩) (bs.size+1) cap9) (bs++(⟨#[255]⟩:fY)).size (Go.Lib.strCells (bs++(⟨#[255]⟩:fY)))):=by
      show World.ownsRow _ _ _ _ _ _ _;rw [bD];exact hown9
     go_roundg (f.length - (k+1))
     case measure=>omega
     case rel=>exact ⟨k+1,bs++(⟨#[255]⟩:fY),rfl,yY,c5.o (by first | trivial | rfl),ha.o,hs.o,yY⟩
    ·have t5:(xk==5)=false:=(by simpa using h5);go_wp2_with fail
     go_roundg (f.length - (k+1))
     case measure=>omega
     case rel=>exact ⟨k+1,bs,rfl,yY,c0.o hx h5,hd.o,hc.o,yY⟩
  ·obtain rfl:k=f.length:=yY;have e:yK (bs=plS f):=(by (show _=_);rw [HS.o,aW]);by_cases h0:0 < bs.size
   ·have hD:=B5 bs 89 9 underlying89 underlying5 underlying9 HO.o rfl h0;go_wp2_with fail
    go_ret
    exact ⟨by rw [←e.o];rfl,HB.o⟩
   ·have hD:(convert 89 9 (.slice A2 bs.size c2)).run prog wr=.ok (.string bs) wr:=by
     have hz:bs.size=0:=yY;have hB:bs=⟨#[]⟩:=by
      cases bs with
      | mk d=>
        have:d.size=0:=hz;rw [Array.eq_empty_of_size_eq_zero this]
     rw [hz,hB];cases A2 with
     | some a2=>exact run_convert_bytes_back wr 89 9 5 a2 c2 [] underlying89 underlying5 underlying9 (fun j hj=>by simp at hj)
     | none=>
       rw [run_convert_bytes_string (P:=prog) wr 89 9 5 none 0 c2 underlying89 underlying5 underlying9];simp [Conv.bytesToString];rfl
    go_wp2_with fail
    go_ret
    exact ⟨by rw [←e.o];rfl,HB.o⟩
theorem Z2k (f:List Tk) (v:Value) (off:Int) (w:World) (h1:RdT w v f) (hl:X3 f≤1000000) (hfl:f.length≤100000):
 Calls prog 61 #[v,.int .i64 off] w fun e w'=>e=.returned (.int .i64 (X8y f off))∧Below w.heap.size w w':=by
 obtain ⟨A,c,rfl,_,_⟩:=h1.shape;have ho:=zW (Q9t f _ w h1 yY yY);have hw:=zW (fun (u:World) (h:Below w.heap.size w u)=>X4f f _ u (RdE.below h1 h yQ) hfl hl);have hA:=Q7j f;have hV:=X2a f;obtain ⟨V,HV⟩:∃ V,yK (X8y f off=V):=⟨_,rfl⟩;rw [HV.o];unfold X8y at HV;clear h1;by_cases h0:off < 0
 ·rw [aK (Or.inl h0)] at HV;go_enter func61,ntmps61
  go_wp2_with fail
  go_ret
  exact ⟨by rw [←HV.o];rfl,aB _ _⟩
 obtain ⟨o,rfl⟩:∃ o:Nat,off=(o:Int):=⟨off.toNat,yY⟩;by_cases h2:(plI f).length < o
 ·rw [aK (Or.inr yY)] at HV;generalize plS f=s at ho hA;have hO:(s.size:Int) < (o:Int):=yY;go_enter func61,ntmps61
  go_wp2_with (go_at_call 60;refine ho.o.mono ?_;rintro e w1 ⟨rfl,hv⟩)
  go_ret
  exact ⟨by rw [←HV.o];rfl,hv⟩
 ·rw [aE yY] at HV;rw [cH,←Q8r] at HV;have hh:o≤Q5g (O9 (Q4 f)):=(by rw [Q8r,X7d];omega);have hT:=N0 f;have hS:X3 (Q4 f)≤1000000:=(by rw [←Q1l,Q8r,Q1l];exact hl);generalize plS f=s at ho hA;have hF:=zW (R3 (Q4 f) (N1 f));generalize Q4 f=g at hw HV hh hT hS hF;have hY:g.length≤100000:=yY;have hO:¬ (s.size:Int) < (o:Int):=yY;have Hd:¬ (o:Int) < 0:=yY;have hU:o≤1000000:=yY;go_enter func61,ntmps61
  go_upto_region 5 with (first
   | (go_at_call 60;refine ho.o.mono ?_;rintro e w1 ⟨rfl,hv⟩;have hd:=zW hv)
   | (go_at_call 104;refine (hw.o _ hd.o).mono ?_;rintro e w2 ⟨v2,rfl,hz,hH⟩;obtain ⟨A2,c2,hX⟩:=Q0 hz;subst hX;have ht:=zW (hd.o.trans (hH.mono hd.o.size));have hE:=zW (OwnE.rd Q5 hz)))
  clear hv hz hH hw ho hA hV hd;obtain ⟨wo,hN⟩:∃ wo,yK (wo=w2):=⟨w2,rfl⟩;go_loopg [1,5,6,7] g.length (fun gk rv av iv xv wr=>∃ i a r:Nat,rv=.int .i64 r∧av=.int .i64 a∧iv=.int .i64 i∧i≤g.length∧a≤1000000∧yK (a+X3 (g.drop i)=X3 g)∧yK (r≤Q5g (O9 (g.drop i)))∧r≤1000000∧yK (((a+K8 (O9 (g.drop i)) r:Nat):Int)=V)∧yK (Below w2.heap.size w2 wr)∧g.length - i≤gk)
  case atStart=>exact ⟨0,0,o,rfl,rfl,rfl,aO _,yY,by (show _=_);rw [cO];omega,by (show _≤_);rw [cO];exact hh,hU,by (show _=_);rw [cO,bI];exact HV.o,aB _ _,yY⟩
  case round=>
   clear hN HV hh;obtain ⟨i,a,r,rfl,rfl,rfl,hi,ha,hb,hf,hr,hg,HB,hgk⟩:=hrel;by_cases hr0:0 < r
   ·have hW:(0:Int) < (r:Int):=yY;have hy:i < g.length:=by
     rcases Nat.lt_or_ge i g.length with h | h
     ·exact h
     ·exfalso;have h2:=hf.o;rw [dI h] at h2;simp [O9,Q5g] at h2;omega
    have Ha:(i:Int) < (g.length:Int):=yY;have hZ:(0:Int)≤(i:Int):=yY;have hI:=HB.o.size;obtain ⟨b,ob,rfl,hs,q1,q2,q3⟩:=RdT.at_ hE.o i hy;rw [←HB.o.cell (p:=⟨b,ob+i * 3,none⟩) hs] at q1;rw [←HB.o.cell (p:=⟨b,ob+i * 3+1,none⟩) hs] at q2;rw [←HB.o.cell (p:=⟨b,ob+i * 3+2,none⟩) hs] at q3;have hP:b < wr.heap.size:=yY;have HD:=zW (Y2j g i hy);rw [HD.o] at hg hf;rw [aQ hy,X3] at hb;rw [Y6r,Y1n] at hf;clear HD;generalize g[i]=x at q1 q2 q3 hg hf hb;obtain ⟨xk,xt,xd⟩:=x;simp only at q1 q2 q3;have HX:yK ((wr.alloc (.cells #[.int .i64 xk,.string xt,.int .i64 xd] 31)).heap[wr.heap.size]? =some (.cells #[.int .i64 xk,.string xt,.int .i64 xd] 31)):=aT wr _;have hd:=zW (HB.o.alloc hI (.cells #[.int .i64 xk,.string xt,.int .i64 xd] 31));go_upto_region 8 with fail
    generalize wr.alloc (.cells #[.int .i64 xk,.string xt,.int .i64 xd] 31)=w3 at HX hd ⊢;obtain ⟨q,hq⟩:∃ q,yK (q=wr.heap.size):=⟨_,rfl⟩;rw [←hq.o] at HX ⊢;have He:q < w3.heap.size:=(aN.1 HX.o).1;clear q1 q2 q3;obtain ⟨x0,x1,x2,_⟩:=bx3 HX.o;by_cases hx:xk=1
    ·subst hx;have hQ:byI ⟨1,xt,xd⟩=xt.data.toList:=rfl;have hB:psI ⟨1,xt,xd⟩=List.replicate xt.size (true,false):=rfl;have hk:wdI ⟨1,xt,xd⟩=xt.size:=rfl;rw [hk] at hb;rw [hQ] at hf;rw [hB] at hg;have Hf:xt.size≤1000000:=(by have:=hb.o;omega);by_cases hrs:r < xt.size
     ·have hC:(r:Int) < (xt.size:Int):=yY;have hM:yK (((a+r:Nat):Int)=V):=by
       show _=_;rw [←hg.o,Z9j _ _ _ hrs hr0]
      go_wp2_with fail
      go_ret
      refine ⟨?_,ht.o.trans (hd.o.mono ht.o.size)⟩;rw [←hM.o];rfl
     ·have hC:¬ (r:Int) < (xt.size:Int):=yY;have hm:yK (a+xt.size+X3 (g.drop (i+1))=X3 g):=(by show _=_;rw [←hb.o];omega);have hu:a+xt.size≤1000000:=(by have:=hm.o;omega);have hn:yK (r - xt.size≤Q5g (O9 (g.drop (i+1)))):=by
       have h:=hf.o;have e:xt.data.toList.length=xt.size:=yW;rw [e] at h;show _≤_;omega
      have hp:yK (((a+xt.size+K8 (O9 (g.drop (i+1))) (r - xt.size):Nat):Int)=V):=by
       show _=_;rw [←hg.o,X5j _ _ _ yY];congr 1;omega
      have e1:((r - xt.size:Nat):Int)=(r:Int) - (xt.size:Int):=yY;go_upto_region 11 with fail
      go_region
      have hK:yK (Below w2.heap.size w2 w3.drew):=Q1 hd.o 1;go_wp2_with fail
      go_roundg (g.length - (i+1))
      case measure=>omega
      case rel=>exact ⟨i+1,a+xt.size,r - xt.size,by rw [e1],rfl,rfl,yY,hu,hm.o,hn.o,yY,hp.o,hK.o,yY⟩
    ·have t1:(xk==1)=false:=(by simpa using hx);have hk:wdI ⟨xk,xt,xd⟩=1:=by
      unfold wdI;exact aE hx
     rw [hk] at hb;have hm:yK (a+1+X3 (g.drop (i+1))=X3 g):=(by show _=_;rw [←hb.o];omega);have hu:a+1≤1000000:=(by have:=hm.o;omega);obtain ⟨r',rfl⟩:∃ r',r=r'+1:=⟨r - 1,yY⟩;by_cases h5:xk=5
     ·subst h5;have hn:yK (r'≤Q5g (O9 (g.drop (i+1)))):=by
       have h:=hf.o;have e:(byI ⟨5,xt,xd⟩).length=1:=rfl;rw [e] at h;show _≤_;omega
      have hp:yK (((a+1+K8 (O9 (g.drop (i+1))) r':Nat):Int)=V):=by
       show _=_;rw [←hg.o,Y8v _ rfl];congr 1;omega
      go_wp2_with fail
      go_roundg (g.length - (i+1))
      case measure=>omega
      case rel=>exact ⟨i+1,a+1,r',rfl,rfl,rfl,yY,hu,hm.o,hn.o,yY,hp.o,hd.o,yY⟩
     ·have t5:(xk==5)=false:=(by simpa using h5);have hn:yK (r'+1≤Q5g (O9 (g.drop (i+1)))):=by
       have h:=hf.o;have e:(byI ⟨xk,xt,xd⟩).length=0:=(by unfold byI;simp [hx,h5]);rw [e] at h;show _≤_;omega
      have hp:yK (((a+1+K8 (O9 (g.drop (i+1))) (r'+1):Nat):Int)=V):=by
       show _=_;rw [←hg.o,Z2m _ hx h5];congr 1;omega
      go_wp2_with fail
      go_roundg (g.length - (i+1))
      case measure=>omega
      case rel=>exact ⟨i+1,a+1,r'+1,rfl,rfl,rfl,yY,hu,hm.o,hn.o,yY,hp.o,hd.o,yY⟩
   ·obtain rfl:r=0:=yY;have hD:=zW (ht.o.trans (HB.o.mono ht.o.size));have hI:=HB.o.size;have hc:yK (((a+clP (O9 (g.drop i)):Nat):Int)=V):=by
     have h:=hg.o;rw [K8] at h;exact h
    clear hf hg hgk;go_wp2_with fail
    go_loopg [5,6] (g.length - i) (fun gk av iv wx=>∃ i a:Nat,av=.int .i64 a∧iv=.int .i64 i∧i≤g.length∧a≤1000000∧yK (a+X3 (g.drop i)=X3 g)∧yK (((a+clP (O9 (g.drop i)):Nat):Int)=V)∧wx=wr∧g.length - i≤gk)
    case atStart=>exact ⟨i,a,rfl,rfl,hi,ha,hb.o,hc.o,rfl,yQ⟩
    case round=>
     clear hb hc;obtain ⟨j,e,rfl,rfl,hj,he,hb,hc,rfl,hgk⟩:=hrel;by_cases hjl:j < g.length
     ·have Hc:(j:Int) < (g.length:Int):=yY;have Hb:(0:Int)≤(j:Int):=yY;obtain ⟨b,ob,rfl,hs,q1,_,_⟩:=RdT.at_ hE.o j hjl;rw [←HB.o.cell (p:=⟨b,ob+j * 3,none⟩) hs] at q1;rw [Y2j g j hjl] at hc;rw [aQ hjl,X3] at hb;have hJ:=hF.o _ (aL hjl);generalize g[j]=x at q1 hc hb hJ;have hk:x.k=3→wdI x=1:=fun h=>by unfold wdI;rw [aE yY]
      by_cases h3:x.k=3
      ·rw [Z7k x h3] at hc;rw [hk h3] at hb;have hG:e+1+X3 (g.drop (j+1))=X3 g:=(by rw [←hb.o];omega);have hR:e+1≤1000000:=yY;have hL:=zW hG;clear hG hk;rw [h3] at q1;go_wp2_with fail
       go_roundg (g.length - (j+1))
       case measure=>omega
       case rel=>exact ⟨j+1,e+1,rfl,rfl,yY,hR,hL.o,by (show _=_);rw [←hc.o];congr 1;omega,rfl,yY⟩
      ·rw [Z7l x h3 hJ] at hc;have t3:(x.k==3)=false:=(by simpa using h3);clear hk;go_wp2_with fail
       go_ret
       refine ⟨?_,hD.o⟩;rw [←hc.o];rfl
     ·obtain rfl:j=g.length:=yY;have e9:clP (O9 (g.drop g.length))=0:=(by rw [eF];rfl);rw [e9] at hc;go_wp2_with fail
      go_ret
      refine ⟨?_,hD.o⟩;rw [←hc.o];rfl
def rvS (s:fY) (k:Nat):fY:=⟨((s.data.toList.drop (s.size - k)).reverse).toArray⟩
theorem V9q (s:fY):(rvS s s.size).size=s.size:=by
 show ((s.data.toList.drop (s.size - s.size)).reverse).length=_;rw [cZ,cO,cT,←aC]
theorem U3x (s:fY) (k:Nat) (hk:k < s.size):bt (rvS s s.size) k=bt s (s.size - 1 - k):=by
 have hl:s.data.toList.length=s.size:=(aC s).symm;unfold bt rvS;simp only
 rw [cZ,cO,bH,bH,List.getElem?_reverse yY,hl]
theorem V6j:(prog.info? 5).map (fun i=>(i.zero,i.size,i.bytes))=some (some (.int .u8 0),1,1):=by kernel_rfl
theorem V9p (s:fY) (src dst:TypeId) {e:TypeId} (hs:prog.underlying src=some (.slice e)) (he:prog.underlying e=some (.int .u8)) (hd:prog.underlying dst=some .string) (w:World) (g:Nat)
 (h:w.rowIs g e s.size (fun j=>.int .u8 (bt s (s.size - 1 - j):Int))):(convert src dst (.slice (some ⟨g,0,none⟩) s.size s.size)).run prog w=.ok (.string (rvS s s.size)) w:=by
 have hl:s.data.toList.length=s.size:=(aC s).symm;have:=run_convert_bytes_back (P:=prog) w src dst e ⟨g,0,none⟩ s.size s.data.toList.reverse hs he hd (fun j hj=>by
  have ha:j < s.size:=(by simpa [hl] using hj);rw [eO,bI,h.cell ha];congr 2;rw [List.getElem_reverse];unfold bt;rw [bH,aF yY];simp [hl])
 rw [cT,hl] at this;rw [this];congr 2;unfold rvS;rw [cZ,cO]
theorem Y5d (s:fY) (w:World) (hs:s.size≤1048576):Calls prog 101 #[.string s] w fun e w'=>e=.returned (.string (rvS s s.size))∧Below w.heap.size w w':=by
 have ho:=fun w=>run_make_row' (P:=prog) 89 5 (.int .u8 0) 1 underlying89 V6j rfl .i64 .i64 s.size yY yY w;have hc:=zW (V9p s 89 9 underlying89 underlying5 underlying9);go_enter func101,ntmps101
 have ha:yK ((w.alloc (.cells (madeCells #[.int .u8 0] s.size) 5)).rowIs w.heap.size 5 s.size (fun j=>.int .u8 (if j < 0 then (bt s (s.size - 1 - j):Int) else 0))):=(fJ w (.int .u8 0) s.size 5).congr fun j _=>by rw [aE (Nat.not_lt_zero j)]
 have hb:=zW ((aB w.heap.size w).alloc yQ (.cells (madeCells #[.int .u8 0] s.size) 5));go_upto_region 2 with fail
 generalize hg:w.heap.size=g at ha ⊢;generalize w.alloc (.cells (madeCells #[.int .u8 0] s.size) 5)=w1 at ha hb ⊢;go_wp2_with fail
 go_loopg [10] s.size (fun gk kv wr=>∃ k:Nat,k≤s.size∧kv=.int .i64 k∧yK (wr.rowIs g 5 s.size (fun j=>.int .u8 (if j < k then (bt s (s.size - 1 - j):Int) else 0)))∧yK (Below w.heap.size w wr)∧s.size - k≤gk)
 case atStart=>exact ⟨0,yY,rfl,ha.o,hb.o,yY⟩
 case round=>
  clear ha hb;obtain ⟨k,hk,rfl,HR,HB,hgk⟩:=hrel;by_cases hkl:k < s.size
  ·have hf:(k:Int) < (s.size:Int):=yY;obtain ⟨j,hj⟩:∃ j,j+k+1=s.size:=⟨s.size - 1 - k,yY⟩;have r0:=HR.o.cell (i:=k) hkl;have rf:=HR.o.frozen k;rw [aE (Nat.lt_irrefl k)] at r0;have hn:(j:Int) < (s.size:Int):=yY;have he:j < s.size:=yY;have hm:(0:Int)≤(j:Int):=yY;have hd:yK ((wr.setCell ⟨g,k,none⟩ (.int .u8 (s[j].toNat:Int))).rowIs g 5 s.size (fun j=>.int .u8 (if j < k+1 then (bt s (s.size - 1 - j):Int) else 0))):=(HR.o.set k (.int .u8 (s[j].toNat:Int))).congr fun i hi=>by
    by_cases h:i=k
    ·rw [aK h,aK yY,h,show s.size - 1 - k=j by omega,X6y s j he]
    ·rw [aE h];by_cases h2:i < k
     ·rw [aK h2,aK yY]
     ·rw [aE h2,aE yY]
   obtain ⟨z,hz⟩:∃ z:Int,z=(s.size:Int) - 1 - (k:Int):=⟨_,rfl⟩;have hh:z=(j:Int):=yY;subst hh;have hp:(s.size:Int) - 1 - (k:Int)=(j:Int):=hz.symm;clear hz;go_wp2_with fail
   go_roundg (s.size - (k+1))
   case measure=>omega
   case rel=>exact ⟨k+1,yY,by go_num,hd.o,HB.o.setCell (p:=⟨g,k,none⟩) (show w.heap.size≤g by omega) _,yQ⟩
  ·obtain rfl:k=s.size:=yY;have hf:¬ (s.size:Int) < (s.size:Int):=yY;have hl:=hc.o wr g (HR.o.congr fun j hj=>by rw [aK hj]);go_wp2_with fail
   go_ret
   exact ⟨rfl,hg▸HB.o⟩
theorem V1h {w:World} {q:Nat} {x:At} (h:AtIn w q x):w.drew.rangeAt q 0 (atC x):=fun j v hj=>by
 rw [bI];show w.cell? _=_;rw [bV _ _ _ _ _ _ h];simpa using hj
abbrev V6p:Array Value:=#[.int .u8 0,.int .u8 0,.int .u8 0,.int .u8 0,.int .u8 0,.int .u8 0,.int .u8 0,.int .u8 0,.int .u8 0,.int .u8 0,.int .u8 0,.int .u8 0,.int .u8 0,.int .u8 0,.int .u8 0,.int .u8 0,.int .u8 0,.int .u8 0,.int .u8 0,.int .u8 0,.int .u8 0,.int .u8 0,.int .u8 0,.int .u8 0,.int .u8 0,.int .u8 0,.int .u8 0,.int .u8 0,.int .u8 0,.int .u8 0,.int .u8 0,.int .u8 0,.int .i64 0,.bool false]
theorem X3q (l:List At) (s:fY) (lv:Value) (w:World) (hp:RdE atC 34 w lv l) (hs:s.size≤1048576) (hl:l.length≤140737488355328) (hone:∀ x∈l,1≤x.mn∧x.many=false):
 Calls prog 102 #[lv,.string s] w (U2v w (s.size+1) (N2 s l Q6m)):=by
 obtain ⟨A,c,rfl,Hu,_⟩:=hp.shape;have HP:=zW hp;have hM:=zW hone;clear hp hone;have hu:=underlying107;have hi:(prog.info? 107).map (·.size)=some 34:=Q3y;have Hl:=fun w=>run_make_row' (P:=prog) 134 4 (.bool false) 1 underlying134 Q8b rfl .i64 .i64 (s.size+1) yY yY w;rw [show ((s.size+1:Nat):Int)=(s.size:Int)+1 by omega] at Hl;obtain ⟨R,hX⟩:∃ R,yK (R=N2 s l Q6m):=⟨_,rfl⟩;rw [←hX.o];go_enter func102,ntmps102
 have hN:yK ((w.alloc (.cells (madeCells #[.bool false] (s.size+1)) 4)).rowIs w.heap.size 4 (s.size+1) (fun j=>.bool (decide (j < 0)))):=(fJ w (.bool false) (s.size+1) 4).congr fun j _=>by rw [cD yY]
 have hE:=zW ((aB w.heap.size w).alloc yQ (.cells (madeCells #[.bool false] (s.size+1)) 4));go_upto_region 2 with fail
 generalize w.alloc (.cells (madeCells #[.bool false] (s.size+1)) 4)=w1 at hN hE ⊢;go_wp2_with fail
 go_loopg [17] (s.size+1) (fun gk kv wr=>∃ k:Nat,k≤s.size+1∧kv=.int .i64 k∧yK (wr.rowIs w.heap.size 4 (s.size+1) (fun j=>.bool (decide (j < k))))∧yK (Below w.heap.size w wr)∧s.size+1 - k≤gk)
 case atStart=>exact ⟨0,yY,rfl,hN.o,hE.o,yY⟩
 case round=>
  clear hN hE;obtain ⟨k,hk,rfl,HR,HB,hgk⟩:=hrel;by_cases hkl:k < s.size+1
  ·have Hj:(k:Int) < (s.size:Int)+1:=yY;have r0:=HR.o.cell (i:=k) hkl;have rf:=HR.o.frozen k;have hd:yK ((wr.setCell ⟨w.heap.size,k,none⟩ (.bool true)).rowIs w.heap.size 4 (s.size+1) (fun j=>.bool (decide (j < k+1)))):=(HR.o.set k (.bool true)).congr fun j _=>by
    by_cases h:j=k
    ·rw [aK h,cR yY]
    ·rw [aE h];congr 1;rw [decide_eq_decide];omega
   go_wp2_with fail
   go_roundg (s.size+1 - (k+1))
   case measure=>omega
   case rel=>exact ⟨k+1,yY,by go_num,hd.o,HB.o.setCell (p:=⟨w.heap.size,k,none⟩) yQ _,yQ⟩
  obtain rfl:k=s.size+1:=yY;have Hj:¬ (((s.size+1:Nat)):Int) < (s.size:Int)+1:=yY;have hW:yK (wr.rowIs w.heap.size 4 (s.size+1) (fun j=>.bool (Q6m j))):=HR.o.congr fun j hj=>by rw [cR hj];rfl
  clear HR;go_wp2_with fail
  obtain ⟨wo,hZ⟩:∃ wo,yK (wo=wr):=⟨wr,rfl⟩;go_loopg [5,26] l.length (fun gk pv kv wr=>∃ (k b:Nat) (g:Nat→Bool),pv=.slice (some ⟨b,0,none⟩) (s.size+1) (s.size+1)∧kv=.int .i64 k∧k≤l.length∧w.heap.size≤b∧yK (wr.rowIs b 4 (s.size+1) (fun j=>.bool (g j)))∧yK (N2 s (l.drop k) g=R)∧yK (Below w.heap.size w wr)∧l.length - k≤gk)
  case atStart=>exact ⟨0,w.heap.size,Q6m,rfl,rfl,yY,yY,hW.o,by (show _=_);rw [hX.o];rfl,HB.o,yY⟩
  case round=>
   clear hW HB hZ;obtain ⟨k,b,g,rfl,rfl,Ht,Hd,HG,HX,HB,Hf⟩:=hrel;by_cases hkl:k < l.length
   ·have hP:(k:Int) < (l.length:Int):=yY;have Hs:(0:Int)≤(k:Int):=yY;obtain ⟨bp,o,rfl,Hb,hh⟩:=HP.o.cells yY;have hx:l[k]? =some l[k]:=aF hkl;have hY:yK (N2 s (l.drop (k+1)) (Q0z l[k] s g)=R):=by
     have h:=HX.o;rw [aQ hkl] at h;exact h
    have hQ:wr.rangeAt bp (o+k * 34) (atC l[k]):=fun j v hj=>by
     rw [dO];exact (HB.o.cell (p:=⟨bp,o+(k * 34+j),none⟩) Hb).trans (hh k _ j v hx hj)
    have hL:=zW (hM.o _ (aL hkl));clear HX hx hh;generalize l[k]=x at hY hQ hL;have hz:=HB.o.size;have hb:=zW ((X5w wr).row x);have he:yK (Below w.heap.size w ((wr.alloc (.cells V6p 107)).setRow wr.heap.size (atC x).toArray)):=below_setRow (HB.o.alloc hz _) hz _;have hJ:yK (Below wr.heap.size wr ((wr.alloc (.cells V6p 107)).setRow wr.heap.size (atC x).toArray)):=below_setRow ((aB _ wr).alloc yQ _) yQ _;go_upto_region 10 with (first
     | (refine wpList_load_mid rfl 107 (.tmp 28) rfl bp (o+k * 34) rfl (atC x) _ hQ hu rfl (by rw [hi,G2]) ?_)
     | (refine wpList_store_row rfl 107 (.tmp 8) (.tmp 29) rfl (wr.heap.size) (atC x).toArray rfl rfl 107 (atC ⟨noP,0,false⟩).toArray (X5w wr) (by rw [Q3y,X0u]) (by simp only [X0u]) (Q3x _) ?_))
    have hf:=zW (HG.o.of_block (w':=(wr.alloc (.cells V6p 107)).setRow wr.heap.size (atC x).toArray) (hJ.o.block _ HG.o.lt));have Hc:b < wr.heap.size:=HG.o.lt;have hR:=hJ.o.size;have hC:wr.heap.size < ((wr.alloc (.cells V6p 107)).setRow wr.heap.size (atC x).toArray).heap.size:=(aN.1 hb.o).1;clear HB hQ HG hJ;generalize wr.heap.size=q at hb he hf hz Hc hR hC ⊢;generalize (wr.alloc (.cells V6p 107)).setRow q (atC x).toArray=w2 at hb he hf hR hC ⊢;have hd:yK ((w2.alloc (.cells (madeCells #[.bool false] (s.size+1)) 4)).rowIs w2.heap.size 4 (s.size+1) (fun j=>.bool (if j < 0 then Q0z x s g j else false))):=(fJ w2 (.bool false) (s.size+1) 4).congr fun j _=>by rw [aE (Nat.not_lt_zero j)]
    have hF:=zW (he.o.alloc yY (.cells (madeCells #[.bool false] (s.size+1)) 4));have hD:yK (AtIn (w2.alloc (.cells (madeCells #[.bool false] (s.size+1)) 4)) q x):=hb.o.keep (bE w2 _ q hC);have hG:=zW (hf.o.of_block (w':=w2.alloc (.cells (madeCells #[.bool false] (s.size+1)) 4)) (bE w2 _ b yY));go_upto_region 11 with fail
    clear he hb hf hR;generalize w2.heap.size=N at hd hC ⊢;generalize w2.alloc (.cells (madeCells #[.bool false] (s.size+1)) 4)=w3 at hd hF hD hG ⊢;go_wp2_with fail
    obtain ⟨wo2,Ha⟩:∃ wo,yK (wo=w3):=⟨w3,rfl⟩;go_loopg [36] (s.size+1) (fun gk kv wr=>∃ i:Nat,i≤s.size+1∧kv=.int .i64 i∧yK (wr.rowIs N 4 (s.size+1) (fun j=>.bool (if j < i then Q0z x s g j else false)))∧yK (wr.rowIs b 4 (s.size+1) (fun j=>.bool (g j)))∧yK (AtIn wr q x)∧yK (Below w.heap.size w wr)∧s.size+1 - i≤gk)
    case atStart=>exact ⟨0,yY,rfl,hd.o,hG.o,hD.o,hF.o,yY⟩
    case round=>
     clear hd hG hD hF;obtain ⟨i,Hi,rfl,HR,HG,HA,HB,Hg⟩:=hrel;by_cases hil:i < s.size+1
     ·have Hh:(i:Int) < (s.size:Int)+1:=yY;have Hr:(0:Int)≤(i:Int):=yY;have qm:=HA.o.mn;have qg:=HG.o.cell (i:=i) hil;have r0:=HR.o.cell (i:=i) hil;rw [aE (Nat.lt_irrefl i)] at r0;have rf:=HR.o.frozen i;have Hq:b < N:=yY;have hm:¬ x.mn < 1:=(by have:=hL.o.1;omega);have hV:=zW hL.o.2;have hS:yK ((decide (x.mn < 1) && g i)=false):=(by show _=_;rw [cD hm];rfl);have hd:yK ((wr.setCell ⟨N,i,none⟩ (.bool false)).rowIs N 4 (s.size+1) (fun j=>.bool (if j=i then false else if j < i then Q0z x s g j else false))):=(HR.o.set i (.bool false)).congr fun j hj=>by
       by_cases h:j=i
       ·rw [aK h,aK h]
       ·rw [aE h,aE h]
      have hf:=zW (HG.o.of_block (w':=(wr.setCell ⟨N,i,none⟩ (.bool false))) (aV _ _ _ _ (show b≠N by omega)));have hb:yK (AtIn (wr.setCell ⟨N,i,none⟩ (.bool false)) q x):=HA.o.keep (aV _ _ _ _ (show q≠N by omega));have he:yK (Below w.heap.size w (wr.setCell ⟨N,i,none⟩ (.bool false))):=HB.o.setCell (p:=⟨N,i,none⟩) (show w.heap.size≤N by omega) _;have hO:N < (wr.setCell ⟨N,i,none⟩ (.bool false)).heap.size:=hd.o.lt;go_upto_region 15 with fail
      clear HR HG HA HB qm qg r0 rf;generalize (wr.setCell ⟨N,i,none⟩ (.bool false))=w4 at hd hf hb he hO ⊢;rcases i with _ | m
      ·have hn:yK (Q0z x s g 0=false):=(by show _=_;rw [Y5y,hS.o]);refine zqR (l0:=#[false,false,false,false,false,false,false,false,false,false,false,false,false,false,false,false,false,false,false,false,false,false,false,false,false,false,false,false]) 28 rfl ?_;refine zqM 0 51 (.int .i64 0) rfl ?_;refine zqB 1 52 (.bool false) rfl rfl (.int .i64 0) (.int .i64 0) ?_;refine zqM 2 53 (.bool false) rfl ?_;refine zqS 3 54 rfl ?_;refine zqS 4 55 rfl ?_;refine zqS 5 56 rfl ?_;refine zqS 6 57 rfl ?_;refine zqS 7 58 rfl ?_;refine zqS 8 59 rfl ?_;refine zqP 9 60 (.bool false) rfl rfl false ?_;refine zqM 10 61 (.bool false) rfl ?_;refine zqS 11 62 rfl ?_;refine zqS 12 63 rfl ?_;refine zqS 13 64 rfl ?_;refine zqS 14 65 rfl ?_;refine zqS 15 66 rfl ?_;refine zqS 16 67 rfl ?_;refine zqS 17 68 rfl ?_;refine zqS 18 69 rfl ?_;refine zqS 19 70 rfl ?_;refine zqS 20 71 rfl ?_;refine zqS 21 72 rfl ?_;refine zqS 22 73 rfl ?_;refine zqS 23 74 rfl ?_;refine zqS 24 75 rfl ?_;refine zqS 25 76 rfl ?_;refine zqS 26 77 rfl ?_;refine zqP 27 78 (.bool false) rfl rfl false ?_;refine bW yZ ?_ _;simp only [Act.put,zZ,zY,zX];have hg:yK (w4.drew.rowIs N 4 (s.size+1) (fun j=>.bool (if j < 0+1 then Q0z x s g j else false))):=hd.o.congr fun j hj=>by
        by_cases h:j=0
        ·rw [aK h,aK yY,h,hn.o]
        ·rw [aE h,aE yY,aE yY]
       go_wp2_with fail
       go_roundg (s.size+1 - (0+1))
       case measure=>omega
       case rel=>exact ⟨0+1,yY,by go_num,hg.o,hf.o.drew,hb.o,he.o.drew,yQ⟩
      ·have Hm:m < s.size:=yY;have Hn:(m:Int) < (s.size:Int):=yY;have Hv:(0:Int)≤(m:Int):=yY;have He:((m+1:Nat):Int)=(m:Int)+1:=yY;rw [He];have hK:=zW (run_loadAt_mid (P:=prog) w4.drew q 0 107 (atC x) _ (V1h hb.o) hu rfl (by rw [hi,G2]));have hH:yK (∀ w,(do eqGuard .gtr 3 (.tmp 51) (.const (.int .i64 0)) (.int .i64 ((m:Int)+1)) (.int .i64 0);Go.binOp .gtr 3 (.int .i64 ((m:Int)+1)) (.int .i64 0):Sem Value).run prog w=.ok (.bool true) w):=by
        have h1:(0:Int) < (m:Int)+1:=yY;show ∀ w,_=_;intro w;go_simp
       have hB:yK (∀ {x y:Operand} (w:World),(do eqGuard .sub 3 x y (.int .i64 ((m:Int)+1)) (.int .i64 1);Go.binOp .sub 3 (.int .i64 ((m:Int)+1)) (.int .i64 1):Sem Value).run prog w=.ok (.int .i64 m) w):=by
        show ∀ (x y:Operand) (w:World),_=_;intro x y w;go_simp;rw [cQ];omega
       have hI:yK (∀ w,(Instr.index 9 (.string s) (.int .i64 m)).run prog w=.ok (.int .u8 (s[m].toNat)) w):=by
        show ∀ w,_=_;intro w;go_simp
       have Hk:(m:Int) < (s.size:Int)+1:=yY;have hU:yK (∀ w,(Instr.indexAt 134 (.slice (some ⟨b,0,none⟩) (s.size+1) (s.size+1)) (.int .i64 m)).run prog w=.ok (.pointer (some ⟨b,m,none⟩)) w):=by
        show ∀ w,_=_;intro w;go_simp
       have Ho:yK (∀ w,(Instr.indexAt 134 (.slice (some ⟨N,0,none⟩) (s.size+1) (s.size+1)) (.int .i64 m)).run prog w=.ok (.pointer (some ⟨N,m,none⟩)) w):=by
        show ∀ w,_=_;intro w;go_simp
       have HV:yK (Q0z x s g (m+1)=(false || (x.p (s[m].toNat) && (g m || (x.many && Q0z x s g m))))):=by
        show _=_;rw [Z4d,hS.o,X6y s m Hm]
       have hT:=zW (fun w=>Y3o x (s[m].toNat) w (eG _));have ha:yK (w4.drew.rowIs N 4 (s.size+1) (fun j=>.bool (if j=m+1 then false else if j < m+1 then Q0z x s g j else false))):=hd.o;have hc:yK (w4.drew.rowIs b 4 (s.size+1) (fun j=>.bool (g j))):=hf.o;have ho:yK (AtIn w4.drew q x):=hb.o;have hq:yK (Below w.heap.size w w4.drew):=he.o.drew;have ht:q < w4.drew.heap.size:=(aN.1 hb.o).1;have Hp:N < w4.drew.heap.size:=hO;clear hd hf hb he hO;cases hpx:x.p (s[m].toNat) with
       | false=>
         rw [hpx] at HV;have HC:=hT;rw [hpx] at HC;have hn:yK (Q0z x s g (m+1)=false):=by
          show _=_;rw [HV.o];exact Bool.or_false _
         refine zqR (l0:=#[false,false,false,false,false,false,false,false,false,false,false,false,false,false,false,false,false,false,false,false,false,false,false,false,false,false,false,false]) 28 rfl ?_;refine zqM 0 51 (.int .i64 ((m:Int)+1)) rfl ?_;refine zqB 1 52 (.bool true) rfl rfl (.int .i64 ((m:Int)+1)) (.int .i64 0) ?_ (hr:=hH.o);refine zqM 2 53 (.bool true) rfl ?_;refine zqM 4 55 (.string s) rfl ?_;refine zqM 5 56 (.int .i64 ((m:Int)+1)) rfl ?_;refine zqB 6 57 (.int .i64 m) rfl rfl (.int .i64 ((m:Int)+1)) (.int .i64 1) ?_ (hr:=hB.o);refine zqJ 7 58 (.int .u8 (s[m].toNat)) rfl rfl (.string s) (.int .i64 m) ?_ (hr:=hI.o);simp only [Act.put,zZ,zY,zX];refine zqV 3 54 (.agg (atC x).toArray) rfl rfl (.pointer (some ⟨q,0,none⟩)) (hK.o) ?_;simp only [Act.put,zZ,zY,zX];refine zqK 8 59 rfl (#[.agg (atC x).toArray,.int .u8 (s[m].toNat)]) (HC.o _) ?_;rintro e w7 ⟨rfl,hb7⟩;refine ⟨_,rfl,?_⟩;have qa:=(hc.o.of_block (hb7.block _ hc.o.lt)).cell (i:=m) yY;have qn:=(ha.o.of_block (hb7.block _ ha.o.lt)).cell (i:=m) yY;have qy:=(ho.o.keep (hb7.block _ ht)).many;rw [aE yY,aK yY] at qn;have rf7:=(ha.o.of_block (hb7.block _ ha.o.lt)).frozen (m+1);have r7:=(ha.o.of_block (hb7.block _ ha.o.lt)).cell (i:=m+1) hil;rw [aK rfl] at r7;change wpAny _ _ _ _ _ _ (Act.put _ (some 59) _) _
         refine zqP 9 60 (.bool false) rfl rfl true ?_;refine zqM 10 61 (.bool false) rfl ?_;refine zqS 11 62 rfl ?_;refine zqS 12 63 rfl ?_;refine zqS 13 64 rfl ?_;refine zqS 14 65 rfl ?_;refine zqS 15 66 rfl ?_;refine zqS 16 67 rfl ?_;refine zqS 17 68 rfl ?_;refine zqS 18 69 rfl ?_;refine zqS 19 70 rfl ?_;refine zqS 20 71 rfl ?_;refine zqS 21 72 rfl ?_;refine zqS 22 73 rfl ?_;refine zqS 23 74 rfl ?_;refine zqS 24 75 rfl ?_;refine zqS 25 76 rfl ?_;refine zqS 26 77 rfl ?_;refine zqP 27 78 (.bool false) rfl rfl false ?_;refine bW yZ ?_ _;simp only [Act.put,zZ,zY,zX];go_wp2_with fail
         have hA:=zW (ha.o.of_block (hb7.block _ ha.o.lt));have hy:=zW (hc.o.of_block (hb7.block _ hc.o.lt));have hv:=zW (ho.o.keep (hb7.block _ ht));have hw:=zW (hq.o.trans (hb7.mono hq.o.size));have hg:yK (w7.rowIs N 4 (s.size+1) (fun j=>.bool (if j < m+1+1 then Q0z x s g j else false))):=hA.o.congr fun j hj=>by
          by_cases h:j=m+1
          ·rw [aK h,aK yY,h,hn.o]
          ·rw [aE h];by_cases h2:j < m+1
           ·rw [aK h2,aK yY]
           ·rw [aE h2,aE yY]
         go_roundg (s.size+1 - (m+1+1))
         case measure=>omega
         case rel=>exact ⟨m+1+1,yY,by go_num,hg.o,hy.o,hv.o,hw.o,yQ⟩
       | true=>
         rw [hpx] at HV;have HC:=hT;rw [hpx] at HC;cases hfi:g m with
         | true=>
           rw [hfi] at HV;have hn:yK (Q0z x s g (m+1)=true):=by
            show _=_;rw [HV.o];exact Bool.or_true _
           refine zqR (l0:=#[false,false,false,false,false,false,false,false,false,false,false,false,false,false,false,false,false,false,false,false,false,false,false,false,false,false,false,false]) 28 rfl ?_;refine zqM 0 51 (.int .i64 ((m:Int)+1)) rfl ?_;refine zqB 1 52 (.bool true) rfl rfl (.int .i64 ((m:Int)+1)) (.int .i64 0) ?_ (hr:=hH.o);refine zqM 2 53 (.bool true) rfl ?_;refine zqM 4 55 (.string s) rfl ?_;refine zqM 5 56 (.int .i64 ((m:Int)+1)) rfl ?_;refine zqB 6 57 (.int .i64 m) rfl rfl (.int .i64 ((m:Int)+1)) (.int .i64 1) ?_ (hr:=hB.o);refine zqJ 7 58 (.int .u8 (s[m].toNat)) rfl rfl (.string s) (.int .i64 m) ?_ (hr:=hI.o);simp only [Act.put,zZ,zY,zX];refine zqV 3 54 (.agg (atC x).toArray) rfl rfl (.pointer (some ⟨q,0,none⟩)) (hK.o) ?_;simp only [Act.put,zZ,zY,zX];refine zqK 8 59 rfl (#[.agg (atC x).toArray,.int .u8 (s[m].toNat)]) (HC.o _) ?_;rintro e w7 ⟨rfl,hb7⟩;refine ⟨_,rfl,?_⟩;have qa:=(hc.o.of_block (hb7.block _ hc.o.lt)).cell (i:=m) yY;have qn:=(ha.o.of_block (hb7.block _ ha.o.lt)).cell (i:=m) yY;have qy:=(ho.o.keep (hb7.block _ ht)).many;rw [aE yY,aK yY] at qn;rw [hfi] at qa;have rf7:=(ha.o.of_block (hb7.block _ ha.o.lt)).frozen (m+1);have r7:=(ha.o.of_block (hb7.block _ ha.o.lt)).cell (i:=m+1) hil;rw [aK rfl] at r7;change wpAny _ _ _ _ _ _ (Act.put _ (some 59) _) _
           refine zqP 9 60 (.bool true) rfl rfl true ?_;refine zqM 10 61 (.bool true) rfl ?_;refine zqM 11 62 (.slice (some ⟨b,0,none⟩) (s.size+1) (s.size+1)) rfl ?_;refine zqM 12 63 (.int .i64 ((m:Int)+1)) rfl ?_;refine zqB 13 64 (.int .i64 m) rfl rfl (.int .i64 ((m:Int)+1)) (.int .i64 1) ?_ (hr:=hB.o);refine zqI 14 65 (.pointer (some ⟨b,m,none⟩)) rfl rfl (.slice (some ⟨b,0,none⟩) (s.size+1) (s.size+1)) (.int .i64 m) ?_ (hr:=hU.o);simp only [Act.put,zZ,zY,zX];refine zqV 15 66 (.bool true) rfl rfl (.pointer (some ⟨b,m,none⟩)) yU ?_;refine zqM 16 67 (.bool true) rfl ?_;refine zqS 17 68 rfl ?_;refine zqS 18 69 rfl ?_;refine zqS 19 70 rfl ?_;refine zqS 20 71 rfl ?_;refine zqS 21 72 rfl ?_;refine zqS 22 73 rfl ?_;refine zqS 23 74 rfl ?_;refine zqS 24 75 rfl ?_;refine zqS 25 76 rfl ?_;refine zqP 26 77 (.bool true) rfl rfl true ?_;refine zqP 27 78 (.bool true) rfl rfl true ?_;refine bW yZ ?_ _;simp only [Act.put,zZ,zY,zX];go_wp2_with fail
           have hA:=zW (ha.o.of_block (hb7.block _ ha.o.lt));have hy:=zW (hc.o.of_block (hb7.block _ hc.o.lt));have hv:=zW (ho.o.keep (hb7.block _ ht));have hw:=zW (hq.o.trans (hb7.mono hq.o.size));have hg:yK ((w7.setCell ⟨N,m+1,none⟩ (.bool true)).rowIs N 4 (s.size+1) (fun j=>.bool (if j < m+1+1 then Q0z x s g j else false))):=(hA.o.set (m+1) (.bool true)).congr fun j hj=>by
            by_cases h:j=m+1
            ·rw [aK h,aK yY,h,hn.o]
            ·rw [aE h,aE h];by_cases h2:j < m+1
             ·rw [aK h2,aK yY]
             ·rw [aE h2,aE yY]
           go_roundg (s.size+1 - (m+1+1))
           case measure=>omega
           case rel=>exact ⟨m+1+1,yY,by go_num,hg.o,hy.o.of_block (aV _ _ _ _ (show b≠N by omega)),hv.o.keep (aV _ _ _ _ (show q≠N by omega)),hw.o.setCell (p:=⟨N,m+1,none⟩) (show w.heap.size≤N by omega) _,yQ⟩
         | false=>
           rw [hfi,hV.o] at HV;have hn:yK (Q0z x s g (m+1)=false):=by
            show _=_;rw [HV.o];exact Bool.or_false _
           refine zqR (l0:=#[false,false,false,false,false,false,false,false,false,false,false,false,false,false,false,false,false,false,false,false,false,false,false,false,false,false,false,false]) 28 rfl ?_;refine zqM 0 51 (.int .i64 ((m:Int)+1)) rfl ?_;refine zqB 1 52 (.bool true) rfl rfl (.int .i64 ((m:Int)+1)) (.int .i64 0) ?_ (hr:=hH.o);refine zqM 2 53 (.bool true) rfl ?_;refine zqM 4 55 (.string s) rfl ?_;refine zqM 5 56 (.int .i64 ((m:Int)+1)) rfl ?_;refine zqB 6 57 (.int .i64 m) rfl rfl (.int .i64 ((m:Int)+1)) (.int .i64 1) ?_ (hr:=hB.o);refine zqJ 7 58 (.int .u8 (s[m].toNat)) rfl rfl (.string s) (.int .i64 m) ?_ (hr:=hI.o);simp only [Act.put,zZ,zY,zX];refine zqV 3 54 (.agg (atC x).toArray) rfl rfl (.pointer (some ⟨q,0,none⟩)) (hK.o) ?_;simp only [Act.put,zZ,zY,zX];refine zqK 8 59 rfl (#[.agg (atC x).toArray,.int .u8 (s[m].toNat)]) (HC.o _) ?_;rintro e w7 ⟨rfl,hb7⟩;refine ⟨_,rfl,?_⟩;have qa:=(hc.o.of_block (hb7.block _ hc.o.lt)).cell (i:=m) yY;have qn:=(ha.o.of_block (hb7.block _ ha.o.lt)).cell (i:=m) yY;have qy:=(ho.o.keep (hb7.block _ ht)).many;rw [aE yY,aK yY] at qn;rw [hfi] at qa;rw [hV.o] at qy;have rf7:=(ha.o.of_block (hb7.block _ ha.o.lt)).frozen (m+1);have r7:=(ha.o.of_block (hb7.block _ ha.o.lt)).cell (i:=m+1) hil;rw [aK rfl] at r7;change wpAny _ _ _ _ _ _ (Act.put _ (some 59) _) _
           refine zqP 9 60 (.bool true) rfl rfl true ?_;refine zqM 10 61 (.bool true) rfl ?_;refine zqM 11 62 (.slice (some ⟨b,0,none⟩) (s.size+1) (s.size+1)) rfl ?_;refine zqM 12 63 (.int .i64 ((m:Int)+1)) rfl ?_;refine zqB 13 64 (.int .i64 m) rfl rfl (.int .i64 ((m:Int)+1)) (.int .i64 1) ?_ (hr:=hB.o);refine zqI 14 65 (.pointer (some ⟨b,m,none⟩)) rfl rfl (.slice (some ⟨b,0,none⟩) (s.size+1) (s.size+1)) (.int .i64 m) ?_ (hr:=hU.o);simp only [Act.put,zZ,zY,zX];refine zqV 15 66 (.bool false) rfl rfl (.pointer (some ⟨b,m,none⟩)) yU ?_;refine zqM 16 67 (.bool false) rfl ?_;refine zqF 17 68 (.pointer (some ⟨q,33,none⟩)) rfl rfl (.pointer (some ⟨q,0,none⟩)) ?_;simp only [Act.put,zZ,zY,zX];refine zqV 18 69 (.bool false) rfl rfl (.pointer (some ⟨q,33,none⟩)) yU ?_;refine zqM 19 70 (.bool false) rfl ?_;refine zqS 20 71 rfl ?_;refine zqS 21 72 rfl ?_;refine zqS 22 73 rfl ?_;refine zqS 23 74 rfl ?_;refine zqS 24 75 rfl ?_;refine zqP 25 76 (.bool false) rfl rfl false ?_;refine zqP 26 77 (.bool false) rfl rfl false ?_;refine zqP 27 78 (.bool false) rfl rfl true ?_;refine bW yZ ?_ _;simp only [Act.put,zZ,zY,zX];go_wp2_with fail
           have hA:=zW (ha.o.of_block (hb7.block _ ha.o.lt));have hy:=zW (hc.o.of_block (hb7.block _ hc.o.lt));have hv:=zW (ho.o.keep (hb7.block _ ht));have hw:=zW (hq.o.trans (hb7.mono hq.o.size));have hg:yK (w7.rowIs N 4 (s.size+1) (fun j=>.bool (if j < m+1+1 then Q0z x s g j else false))):=hA.o.congr fun j hj=>by
            by_cases h:j=m+1
            ·rw [aK h,aK yY,h,hn.o]
            ·rw [aE h];by_cases h2:j < m+1
             ·rw [aK h2,aK yY]
             ·rw [aE h2,aE yY]
           go_roundg (s.size+1 - (m+1+1))
           case measure=>omega
           case rel=>exact ⟨m+1+1,yY,by go_num,hg.o,hy.o,hv.o,hw.o,yQ⟩
     ·obtain rfl:i=s.size+1:=yY;have Hh:¬ (((s.size+1:Nat)):Int) < (s.size:Int)+1:=yY;have hg:yK (wr.rowIs N 4 (s.size+1) (fun j=>.bool (Q0z x s g j))):=HR.o.congr fun j hj=>by rw [aK hj]
      go_wp2_with fail
      go_roundg (l.length - (k+1))
      case measure=>omega
      case rel=>exact ⟨k+1,N,Q0z x s g,rfl,by go_num,yY,yY,hg.o,hY.o,HB.o,yQ⟩
   ·have hP:¬ (k:Int) < (l.length:Int):=yY;have HE:yK (g=R):=by
     have h:=HX.o;rw [dI yY] at h;exact h
    go_wp2_with fail
    go_ret
    rw [HE.o] at HG;exact ⟨b,rfl,Hd,HG.o,HB.o⟩
def RowA (w:World) (g n:Nat) (q:Nat→At):Prop:=g < w.heap.size∧∀ t,t < n→w.rangeAt g (t * 34) (atC (q t))∧w.there g (t * 34) 34
theorem RowA.congr {w:World} {g n:Nat} {q r:Nat→At} (h:RowA w g n q) (e:∀ t,t < n→q t=r t):RowA w g n r:=
 ⟨h.1,fun t ht=>by rw [←e t ht];exact h.2 t ht⟩
theorem RowA.drew {w:World} {g n:Nat} {q:Nat→At} (h:RowA w g n q):RowA w.drew g n q:=h
theorem Q9l (g:Nat):∀ (vs:List Value) (o:Nat) (w:World),(w.setCells g o vs).heap.size=w.heap.size
 | [],_,_=>rfl
 | v::r,o,w=>by rw [World.setCells,Q9l g r];simp [World.setCell]
theorem Q2p {B:Nat} {a:World} {g:Nat} (hg:B≤g):∀ (vs:List Value) (o:Nat) (w:World),Below B a w→Below B a (w.setCells g o vs)
 | [],_,_,h=>h
 | v::r,o,w,h=>by rw [World.setCells];exact Q2p hg r _ _ (h.setCell (p:=⟨g,o,none⟩) hg v)
theorem RowA.set {w:World} {g n:Nat} {q:Nat→At} (h:RowA w g n q) (i:Nat) (hi:i < n) (x:At):RowA (w.setCells g (i * 34) (atC x)) g n (fun t=>if t=i then x else q t):=
 ⟨by rw [Q9l];exact h.1,fun t ht=>by
   refine ⟨?_,World.there_setCells (h.2 t ht).2 _ _ _⟩;by_cases hti:t=i
   ·subst hti;show (w.setCells g (t * 34) (atC x)).rangeAt g (t * 34) (atC (if t=t then x else q t));rw [aK rfl];exact World.rangeAt_setCells_same w g (t * 34) (atC x) (by rw [G2];exact (h.2 t ht).2)
   ·show (w.setCells g (i * 34) (atC x)).rangeAt g (t * 34) (atC (if t=i then x else q t));rw [aE hti];refine World.rangeAt_setCells_apart (h.2 t ht).1 _ _ _ (.inr ?_);rw [G2,G2];omega⟩
def Y6a (l:List At) (t:Nat):At:=l.getD t ⟨noP,0,false⟩
theorem Y6b (l:List At) (t:Nat) (h:t < l.length):l[t]? =some (Y6a l t):=by
 unfold Y6a;rw [bH,aF h];rfl
theorem RowA.of {w:World} {B g cap:Nat} {l:List At} (h:OwnE 107 atC 34 w B (.slice (some ⟨g,0,none⟩) l.length cap) l):RowA w g l.length (Y6a l)∧B≤g:=by
 obtain ⟨h0,h1 | ⟨g',cap',cur,hv,hd,hg,hn,hm,hs,ht⟩⟩:=h
 ·exact absurd h1.1 yW
 injection hv with e1 _ _;injection e1 with e1;injection e1 with e1 _ _;subst e1;refine ⟨⟨(aN.1 hg).1,fun t hc=>?_⟩,hd⟩;have he:∀ j,j < 34→t * 34+j < l.length * 34:=fun j hj=>by
  have:(t+1) * 34≤l.length * 34:=Nat.mul_le_mul_right _ hc;omega
 have ha:∀ j,j < 34→w.cell? ⟨g,t * 34+j,none⟩=(atC (Y6a l t))[j]? :=fun j hj=>by
  rw [bV _ _ _ _ _ _ hg];have h2:=Q2t atC 34 G2 l t j (Y6a l t) (Y6b l t hc) hj;rw [←h2,←ht,List.getElem?_take_of_lt (he j hj)];simp
 refine ⟨fun j v hj=>?_,fun j hj=>⟨?_,eP _ _ _ _ _ hg⟩⟩
 ·have hb:j < 34:=(by rw [←G2 (Y6a l t)];exact (aM.1 hj).1);rw [ha j hb,hj]
 ·rw [ha j hj,aF (by rw [G2];exact hj)];rfl
theorem RowA.rd {w:World} {g n c:Nat} {q:Nat→At} (h:RowA w g n q) (l:List At) (hl:l.length=n) (hc:n≤c) (hq:∀ t x,l[t]? =some x→q t=x):RdE atC 34 w (.slice (some ⟨g,0,none⟩) n c) l:=by
 subst hl;refine ⟨some ⟨g,0,none⟩,c,rfl,hc,(fun e=>by cases e),fun _=>⟨g,0,rfl,h.1,fun i x j u hi hj=>?_⟩⟩;have ha:=(aM.1 hi).1;have:=(h.2 i ha).1 j u (by rw [hq i x hi];exact hj);rw [bI];exact this
def X5s (n i:Nat) (L:Nat→At) (t:Nat):At:=if t < i∨n≤t+i then L (n - 1 - t) else L t
theorem Z8y (n:Nat) (L:Nat→At):∀ t,t < n→L t=X5s n 0 L t:=fun t ht=>by
 unfold X5s;rw [aE yY]
theorem Z8x (n i j:Nat) (L:Nat→At) (hj:j+i+1=n) (hij:i < j):∀ t,t < n→
 (if t=j then X5s n i L i else if t=i then X5s n i L j else X5s n i L t)=X5s n (i+1) L t:=fun t ht=>by
 unfold X5s;by_cases h1:t=j
 ·rw [aK h1,aE (show ¬ (i < i∨n≤i+i) by omega),aK (show t < i+1∨n≤t+(i+1) by omega)];congr 1;omega
 ·rw [aE h1];by_cases h2:t=i
  ·rw [aK h2,aE (show ¬ (j < i∨n≤j+i) by omega),aK (show t < i+1∨n≤t+(i+1) by omega)];congr 1;omega
  ·rw [aE h2];by_cases h3:t < i∨n≤t+i
   ·rw [aK h3,aK (show t < i+1∨n≤t+(i+1) by omega)]
   ·rw [aE h3,aE (show ¬ (t < i+1∨n≤t+(i+1)) by omega)]
theorem V3w (n i:Nat) (L:Nat→At) (h1:n≤2 * i+1):∀ t,t < n→X5s n i L t=L (n - 1 - t):=fun t ht=>by
 unfold X5s;by_cases h3:t < i∨n≤t+i
 ·rw [aK h3]
 ·rw [aE h3];congr 1;omega
theorem U2c (l:List At) (t:Nat) (x:At) (h:l.reverse[t]? =some x):Y6a l (l.length - 1 - t)=x:=by
 have ht:t < l.length:=(by simpa using (aM.1 h).1);rw [List.getElem?_reverse ht,Y6b l (l.length - 1 - t) yY] at h;exact eA h
def U0m (w:World) (B:Nat) (l:List At) (e:Ending) (w':World):Prop:=∃ v,e=.returned v∧RdE atC 34 w' v l∧Below B w w'
def Z4a (w:World) (l:List At) (e:Ending) (w':World):Prop:=∃ v,e=.returned v∧OwnE 107 atC 34 w' w.heap.size v l∧Below w.heap.size w w'
theorem Z7m (l:List At) (v:Value) (w:World) (hp:RdE atC 34 w v l) (hl:l.length≤140737488355):
 Calls prog 153 #[v] w (Z4a w l):=by
 obtain ⟨R,ha⟩:∃ R,yK (R=Z4a w l):=⟨_,rfl⟩;rw [←ha.o];have q22:∀ (w:World) (a:Option Addr) (n c n' c':Nat),(binOp .eql 108 (.slice a n c) (.slice none n' c')).run prog w=.ok (.bool a.isNone) w:=fun w a n c n' c'=>Lib.run_eql_slice_nil w _ _ a n c n' c' underlying108;obtain ⟨A,c,rfl,hc,hn⟩:=hp.shape;have HP:=zW hp;clear hp;rcases A with _ | ad
 ·have hb:=hn rfl;obtain rfl:l=[]:=cC yY;obtain rfl:c=0:=hb;clear hn;go_enter func153,ntmps153
  go_wp2_with fail
  rw [ha.o];exact ⟨_,rfl,OwnE.nil,aB _ _⟩
 ·clear hn;have HO:yK (OwnE 107 atC 34 (w.alloc (.cells #[] 107)) w.heap.size (.slice (some ⟨w.heap.size,0,none⟩) 0 0) []):=World.ownsRow_made (base:=w.heap.size) (e:=107) (size:=34) w #[] 0 yQ yX rfl;have HQ:=zW (HP.o.alloc (.cells #[] 107));go_enter func153,ntmps153
  go_wp2_with (refine V2 rfl (.tmp 5) (.tmp 6) 108 107 rfl underlying108 _ atC 34 48 Y0y rfl yX G2 V6w w.heap.size (.slice (some ⟨w.heap.size,0,none⟩) 0 0) [] rfl HO.o _ l rfl HQ.o (by simp only [eB];omega) yX yW ?_;intro v1 w1 hown1 hbel1 hgrow1)
  rw [ha.o];exact ⟨v1,rfl,hown1,hbel1 w.heap.size w yQ ((aB _ w).alloc yQ _)⟩
theorem V6e (B g c n:Nat) (L:Nat→At) (w:World) (hr:RowA w g n L) (hB:B≤g) (hn:n≤140737488355):
 Calls prog 154 #[.slice (some ⟨g,0,none⟩) n c] w fun e w'=>e=.returned (.tuple #[])∧RowA w' g n (fun t=>L (n - 1 - t))∧Below B w w':=by
 have hu:=underlying107;have hi:(prog.info? 107).map (·.size)=some 34:=Q3y;have hh:=zW (hr.congr (Z8y n L));have hf:=zW (aB B w);clear hr;go_enter func154,ntmps154
 go_wp2_with fail
 obtain ⟨wo,HW⟩:∃ wo:World,yK (wo=w):=⟨w,rfl⟩;go_loopg [2,3] (n+1) (fun m iv jv wr=>∃ i:Nat,iv=.int .i64 i∧jv=.int .i64 ((n:Int) - 1 - i)∧2 * i≤n∧yK (RowA wr g n (X5s n i L))∧yK (Below B w wr)∧n - i≤m)
 case atStart=>exact ⟨0,rfl,by simp,yY,hh.o,hf.o,yY⟩
 case round=>
  clear hh hf;obtain ⟨i,rfl,rfl,hs,HR,HB,hm⟩:=hrel;by_cases hlt:2 * i+1 < n
  ·have ha:(i:Int) < (n:Int) - 1 - (i:Int):=yY;obtain ⟨j,hj⟩:∃ j,j+i+1=n:=⟨n - 1 - i,yY⟩;have hq:i < j:=yY;have ht:(i:Int) < (n:Int):=yY;have hw:(j:Int) < (n:Int):=yY;obtain ⟨k,hk⟩:∃ k:Int,k=(n:Int) - 1 - (i:Int):=⟨_,rfl⟩;rw [←hk] at ha ⊢;obtain rfl:k=(j:Int):=yY;clear hk;have hv:(i:Int) < (j:Int):=yY;obtain ⟨q,HQ⟩:∃ q,yK (q=X5s n i L):=⟨_,rfl⟩;have hp:yK (∀ t,t < n→(if t=j then q i else if t=i then q j else q t)=X5s n (i+1) L t):=by
    show _;rw [HQ.o];exact Z8x n i j L hj hq
   rw [←HQ.o] at HR;clear HQ ha;have S1:yK (wr.drew.there g (i * 34) (atC (q j)).length):=(by show World.there _ _ _ _;rw [G2];exact (HR.o.drew.2 i yY).2);have hl:=zW (HR.o.drew.set i yY (q j));have S2:yK ((wr.drew.setCells g (i * 34) (atC (q j))).there g (j * 34) (atC (q i)).length):=(by show World.there _ _ _ _;rw [G2];exact (hl.o.2 j yY).2);have ho:=zW ((hl.o.set j yY (q i)).congr hp.o);have hg:=zW (Q2p hB (atC (q i)) (j * 34) _ (Q2p hB (atC (q j)) (i * 34) _ HB.o.drew));have hb:(prog.info? 107).map (·.size)=some (atC (q j)).length:=(by rw [hi,G2]);have hc:(prog.info? 107).map (·.size)=some (atC (q i)).length:=(by rw [hi,G2]);have hd:yK (∀ w,(Instr.indexAt 108 (.slice (some ⟨g,0,none⟩) n c) (.int .i64 i)).run prog w=.ok (.pointer (some ⟨g,i * 34,none⟩)) w):=fun w=>by go_simp
   have he:yK (∀ w,(Instr.indexAt 108 (.slice (some ⟨g,0,none⟩) n c) (.int .i64 j)).run prog w=.ok (.pointer (some ⟨g,j * 34,none⟩)) w):=fun w=>by go_simp
   go_wp2_with fail
   refine zqR (l0:=#[false,false,false,false,false,false,false,false,false,false,false,false,false,false,false,false]) 16 rfl ?_;refine zqM 0 14 (.slice (some ⟨g,0,none⟩) n c) rfl ?_;refine zqM 1 15 (.int .i64 i) rfl ?_;refine zqM 2 16 (.slice (some ⟨g,0,none⟩) n c) rfl ?_;refine zqM 3 17 (.int .i64 j) rfl ?_;refine zqM 4 18 (.slice (some ⟨g,0,none⟩) n c) rfl ?_;refine zqM 5 19 (.int .i64 j) rfl ?_;refine zqI 6 20 (.pointer (some ⟨g,j * 34,none⟩)) rfl rfl (.slice (some ⟨g,0,none⟩) n c) (.int .i64 j) ?_ (hr:=he.o);refine zqM 8 22 (.slice (some ⟨g,0,none⟩) n c) rfl ?_;refine zqM 9 23 (.int .i64 i) rfl ?_;refine zqI 10 24 (.pointer (some ⟨g,i * 34,none⟩)) rfl rfl (.slice (some ⟨g,0,none⟩) n c) (.int .i64 i) ?_ (hr:=hd.o);refine Z0p 7 11 (some 21) (some 25) yZ rfl rfl rfl rfl yZ yZ 107 (.tmp 20) rfl (g) (j * 34) yZ (atC (q j)) _ ((HR.o.drew.2 j yY).1) hu rfl (by rw [hi,G2]) 107 (.tmp 24) rfl (g) (i * 34) yZ (atC (q i)) _ ((HR.o.drew.2 i yY).1) hu rfl (by rw [hi,G2]) ?_ ?_
   ·simp only [Act.put,zZ,zY,zX];refine Y0f 11 (some 25) yZ rfl rfl yZ 107 (.tmp 24) rfl (g) (i * 34) yZ (atC (q i)) _ ((HR.o.drew.2 i yY).1) hu rfl (by rw [hi,G2]) ?_;refine zqI 12 26 (.pointer (some ⟨g,i * 34,none⟩)) rfl rfl (.slice (some ⟨g,0,none⟩) n c) (.int .i64 i) ?_ (hr:=hd.o);refine Q3s 13 yZ rfl rfl yZ 107 (.tmp 26) (.tmp 21) rfl (g) (i * 34) (atC (q j)) yZ yZ (S1.o) (hb) (Q3x _) ?_;refine zqI 14 27 (.pointer (some ⟨g,j * 34,none⟩)) rfl rfl (.slice (some ⟨g,0,none⟩) n c) (.int .i64 j) ?_ (hr:=he.o);refine Q3s 15 yZ rfl rfl yZ 107 (.tmp 27) (.tmp 25) rfl (g) (j * 34) (atC (q i)) yZ yZ (S2.o) (hc) (Q3x _) ?_;refine bW yZ ?_ _;simp only [Act.put,zZ,zY,zX];go_wp2_with fail
    go_roundg (n - (i+1))
    case measure=>omega
    case rel=>exact ⟨i+1,by go_num,by (show Value.int .i64 _=Value.int .i64 _);congr 1;omega,yY,ho.o,hg.o,yQ⟩
   ·simp only [Act.put,zZ,zY,zX];refine Y0f 7 (some 21) yZ rfl rfl yZ 107 (.tmp 20) rfl (g) (j * 34) yZ (atC (q j)) _ ((HR.o.drew.2 j yY).1) hu rfl (by rw [hi,G2]) ?_;refine zqI 12 26 (.pointer (some ⟨g,i * 34,none⟩)) rfl rfl (.slice (some ⟨g,0,none⟩) n c) (.int .i64 i) ?_ (hr:=hd.o);refine Q3s 13 yZ rfl rfl yZ 107 (.tmp 26) (.tmp 21) rfl (g) (i * 34) (atC (q j)) yZ yZ (S1.o) (hb) (Q3x _) ?_;refine zqI 14 27 (.pointer (some ⟨g,j * 34,none⟩)) rfl rfl (.slice (some ⟨g,0,none⟩) n c) (.int .i64 j) ?_ (hr:=he.o);refine Q3s 15 yZ rfl rfl yZ 107 (.tmp 27) (.tmp 25) rfl (g) (j * 34) (atC (q i)) yZ yZ (S2.o) (hc) (Q3x _) ?_;refine bW yZ ?_ _;simp only [Act.put,zZ,zY,zX];go_wp2_with fail
    go_roundg (n - (i+1))
    case measure=>omega
    case rel=>exact ⟨i+1,by go_num,by (show Value.int .i64 _=Value.int .i64 _);congr 1;omega,yY,ho.o,hg.o,yQ⟩
  ·have ha:¬ (i:Int) < (n:Int) - 1 - (i:Int):=yY;have HE:=zW (HR.o.congr (V3w n i L yY));go_wp2_with fail
   go_end0
   exact ⟨rfl,HE.o,HB.o⟩
theorem V6f (a:Option Addr) (c:Nat) (w:World):
 Calls prog 154 #[.slice a 0 c] w fun e w'=>e=.returned (.tuple #[])∧w=w':=by
 go_enter func154,ntmps154
 go_wp2_with fail
 go_loopg [2,3] 0 (fun _ s2 s3 wr=>s2=.int .i64 0∧s3=.int .i64 (-1)∧w=wr)
 case atStart=>exact ⟨rfl,rfl,rfl⟩
 case round=>
  obtain ⟨rfl,rfl,rfl⟩:=hrel;go_wp2_with fail
  go_end0
  exact ⟨rfl,rfl⟩
theorem V5b (l:List At) (v:Value) (w:World) (hp:RdE atC 34 w v l) (hl:l.length≤140737488355):
 Calls prog 103 #[v] w (U0m w w.heap.size l.reverse):=by
 obtain ⟨R,ha⟩:∃ R,yK (R=U0m w w.heap.size l.reverse):=⟨_,rfl⟩;rw [←ha.o];have HC:=zW (Z7m l v w hp hl);clear hp;go_enter func103,ntmps103
 go_upto_region 2 with (go_at_call 153;refine HC.o.mono ?_;rintro e w1 ⟨v1,rfl,hown,hb1⟩)
 have hd:=zW hb1;rcases hown.2 with ⟨rfl,h0⟩ | ⟨g,cap,cur,rfl,hbg,hh,hc,hcm,hs,htk⟩
 ·obtain rfl:l=[]:=cC h0;clear hown hb1 HC;go_wp2_with (go_at_call 154;refine (V6f _ _ _).mono ?_;rintro e w' ⟨rfl,rfl⟩)
  rw [ha.o];exact ⟨_,rfl,RdE.nil,hd.o⟩
 ·have hb:=RowA.of hown;have HT:=zW (V6e g g cap l.length (Y6a l) w1 hb.1 yQ hl);have he:=hb.2;clear hb hown hh htk hs hcm hb1 HC;go_wp2_with (go_at_call 154;refine HT.o.mono ?_;rintro e w2 ⟨rfl,hr2,hb2⟩)
  rw [ha.o];refine ⟨_,rfl,hr2.rd l.reverse yW hc (fun t x h=>U2c l t x h),hd.o.trans (hb2.mono he)⟩
structure Sl where
 A:Option Addr
 n:Nat
 c:Nat
def Sl.v (x:Sl):Value:=.slice x.A x.n x.c
structure RuV where
 b:Bool
 u:Sl
 t:Sl
def ruC (x:RuV):List Value:=[.bool x.b,x.u.v,x.t.v]
theorem V9n (x:RuV):(ruC x).length=3:=rfl
theorem V9o (x:RuV):∀ v∈ruC x,v.oneCell'=true:=by
 intro v hv;simp [ruC,Sl.v] at hv;rcases hv with rfl | rfl | rfl<;>rfl
def RdRu (w:World) (v:Value) (l:List Ru):Prop:=∃ xs:List RuV,RdE ruC 3 w v xs∧xs.length=l.length∧∀ (i:Nat) (x:RuV) (r:Ru),xs[i]? =some x→l[i]? =some r→x.b=r.br∧RdE atC 34 w x.u.v r.bf∧RdE atC 34 w x.t.v r.af
theorem RdRu.below {w w':World} {B:Nat} {v:Value} {l:List Ru} (h:RdRu w v l) (hb:Below B w w') (hB:w.heap.size≤B):RdRu w' v l:=by
 obtain ⟨xs,h1,h2,h3⟩:=h;exact ⟨xs,h1.below hb hB,h2,fun i x r hx hr=>⟨(h3 i x r hx hr).1,(h3 i x r hx hr).2.1.below hb hB,(h3 i x r hx hr).2.2.below hb hB⟩⟩
theorem V5h (x:RuV):(ruC x).toArray.all (·.oneCell')=true:=by
 rw [dS];intro v hv;exact V9o x v (List.mem_toArray.1 hv)
theorem X3w:(prog.info? 3).map (fun i=>(i.zero,i.size,i.bytes))=some (some (.int .i64 0),1,8):=by kernel_rfl
theorem X3v (x:Int):∀ u∈V7 x,u.oneCell'=true:=by
 intro u hu;simp [V7] at hu;subst hu;rfl
theorem Q4j {w:World} {b o:Nat} {A:Option Addr} {n c:Nat} (h:w.cell? ⟨b,o,none⟩=some (.slice A n c)):(Instr.loadAt 108 (.pointer (some ⟨b,o,none⟩))).run prog w=.ok (.slice A n c) w:=by
 go_simp
theorem Q4x {w:World} {g n i:Nat} {t:TypeId} {P Q:Nat→Bool} (h:w.rowIs g t n (fun j=>.bool (if j < i then P j else Q j))) (e:P i=Q i):w.rowIs g t n (fun j=>.bool (if j < i+1 then P j else Q j)):=h.congr fun j _=>by
 by_cases h:j=i
 ·rw [aE yY,aK yY,h,e]
 ·by_cases h2:j < i
  ·rw [aK h2,aK yY]
  ·rw [aE h2,aE yY]
theorem Z6j {w:World} {g n i:Nat} {t:TypeId} {P Q:Nat→Bool} (h:w.rowIs g t n (fun j=>.bool (if j < i then P j else Q j))) (b:Bool) (e:P i=b):(w.setCell ⟨g,i,none⟩ (.bool b)).rowIs g t n (fun j=>.bool (if j < i+1 then P j else Q j)):=(h.set i (.bool b)).congr fun j _=>by
 by_cases h:j=i
 ·rw [aK h,aK yY,h,e]
 ·rw [aE h];by_cases h2:j < i
  ·rw [aK h2,aK yY]
  ·rw [aE h2,aE yY]
def V1b (rs:List Ru):Prop:=rs.length≤1000000∧∀ r∈rs,(r.bf.length≤1000000∧r.af.length≤1000000)∧(∀ x∈r.bf,1≤x.mn∧x.many=false)∧∀ x∈r.af,1≤x.mn∧x.many=false
theorem Y6f (rs:List Ru) (v:Value) (s:fY) (w:World) (ht:RdRu w v rs) (hsm:V1b rs):
 Calls prog 59 #[v,.string s] w (N6 3 V7 1 w (S5 rs s)):=by
 have hl:=hsm.1;have HY:=fun r hr=>(hsm.2 r hr).1;have hZ:=zW (fun r hr=>(hsm.2 r hr).2);clear hsm;obtain ⟨R,Ha⟩:∃ R,yK (R=N6 3 V7 1 w (S5 rs s)):=⟨_,rfl⟩;rw [←Ha.o];obtain ⟨xs,Hl,Hn,hx⟩:=ht;have iC:xs.length≤rs.length:=fP Hn;have io:rs.length≤xs.length:=fP Hn.symm;clear Hn;obtain ⟨Av,cv,rfl,ix,_⟩:=Hl.shape;by_cases h24:1024 < s.size
 ·have Hf:(1024:Int) < (s.size:Int):=yY;have e0:S5 rs s=[]:=(by unfold S5;rw [aK h24]);go_enter func59,ntmps59
  go_wp2_with fail
  rw [Ha.o,e0];exact ⟨_,rfl,OwnE.nil,aB _ _⟩
 have Hf:¬ (1024:Int) < (s.size:Int):=yY;have HX:=zW Hl;have HP:=zW hx;clear Hl hx;have hu:=underlying110;have hi:(prog.info? 110).map (·.size)=some 3:=yZ;have ij:=fun w=>run_make_row' (P:=prog) 134 4 (.bool false) 1 underlying134 Q8b rfl .i64 .i64 (s.size+1) yY yY w;rw [show ((s.size+1:Nat):Int)=(s.size:Int)+1 by omega] at ij;have Hb:=zW (Y5d s w yY);have hq:(rvS s s.size).size=s.size:=V9q s;have Hp:yK (∀ j,j < s.size→bt (rvS s s.size) j=bt s (s.size - 1 - j)):=U3x s;generalize rvS s s.size=bk at Hb hq Hp;go_enter func59,ntmps59
 go_upto_region 4 with (go_at_call 101;refine Hb.o.mono ?_;rintro e w1 ⟨rfl,hb1⟩)
 have hK:=zW hb1;have hs:yK ((w1.alloc (.cells (madeCells #[.bool false] (s.size+1)) 4)).rowIs w1.heap.size 4 (s.size+1) (fun j=>.bool (false))):=fJ w1 (.bool false) (s.size+1) 4;have hf:=zW (hK.o.alloc hK.o.size (.cells (madeCells #[.bool false] (s.size+1)) 4));clear hb1 Hb;go_upto_region 5 with fail
 have ip:=hK.o.size;generalize w1.heap.size=D at hs ip ⊢;generalize w1.alloc (.cells (madeCells #[.bool false] (s.size+1)) 4)=w2 at hs hf ⊢;have hL:yK ((w2.alloc (.cells (madeCells #[.bool false] (s.size+1)) 4)).rowIs w2.heap.size 4 (s.size+1) (fun j=>.bool (false))):=fJ w2 (.bool false) (s.size+1) 4;have hS:=zW (hf.o.alloc hf.o.size (.cells (madeCells #[.bool false] (s.size+1)) 4));have hT:=zW (hs.o.of_block (w':=w2.alloc (.cells (madeCells #[.bool false] (s.size+1)) 4)) (bE w2 _ D hs.o.lt));have HS:D < w2.heap.size:=hs.o.lt;go_upto_region 6 with fail
 clear hs hf hK;generalize w2.heap.size=K at hL HS ⊢;generalize w2.alloc (.cells (madeCells #[.bool false] (s.size+1)) 4)=w3 at hL hT hS ⊢;go_wp2_with fail
 obtain ⟨wo,HN⟩:∃ wo,yK (wo=w3):=⟨w3,rfl⟩;go_loopg [31] xs.length (fun gk kv wr=>∃ k:Nat,kv=.int .i64 k∧k≤xs.length∧yK (wr.rowIs D 4 (s.size+1) (fun j=>.bool (decide (0 < j∧j < s.size) && F7 (rs.take k) s j)))∧yK (wr.rowIs K 4 (s.size+1) (fun j=>.bool (decide (0 < j∧j < s.size) && U6 (rs.take k) s j)))∧yK (Below w.heap.size w wr)∧xs.length - k≤gk)
 case atStart=>exact ⟨0,rfl,yY,hT.o.congr (fun j _=>by rw [cW];show _=Value.bool (_ && false);rw [Bool.and_false]),hL.o.congr (fun j _=>by rw [cW];show _=Value.bool (_ && false);rw [Bool.and_false]),hS.o,yY⟩
 case round=>
  clear hT hL hS HN;obtain ⟨k,rfl,hk,HD,HK,HB,hgk⟩:=hrel;by_cases hkl:k < xs.length
  ·have ih:(k:Int) < (xs.length:Int):=yY;have ig:(0:Int)≤(k:Int):=yY;obtain ⟨bp,o,rfl,Hx,hg⟩:=HX.o.cells yY;have Hm:xs[k]? =some xs[k]:=aF hkl;have Hy:rs[k]? =some (rs[k]'yY):=aF yY;have Hk:wr.rangeAt bp (o+k * 3) (ruC xs[k]):=fun j v hj=>by
    rw [dO];exact (HB.o.cell (p:=⟨bp,o+(k * 3+j),none⟩) Hx).trans (hg k _ j v Hm hj)
   obtain ⟨Hi,Hw,Hv⟩:=HP.o k _ _ Hm Hy;have Hc:yK (rs.take (k+1)=rs.take k++[rs[k]'yY]):=aH yY;have Hz:(rs[k]'yY).bf.length≤140737488355328∧(rs[k]'yY).af.length≤140737488355:=(by have:=HY _ (aL (show k < rs.length by omega));omega);have hO:=zW (hZ.o _ (aL (show k < rs.length by omega)));have hQ:=zW (Hw.below HB.o yQ);have hP:=zW (Hv.below HB.o yQ);clear hg Hm Hy Hw Hv;generalize xs[k]=y at Hk Hi hQ hP;generalize rs[k]'yY=r at Hi hQ hP Hc Hz hO;obtain ⟨yb,⟨uA,un,uc⟩,⟨tA,tn,tc⟩⟩:=y;obtain rfl:yb=r.br:=Hi;have hz:=HB.o.size;have HC:=HB.o.size;have il:bp < wr.heap.size:=bC Hx HC;have HQ:yK (((wr.alloc (.cells #[.bool false,.slice none 0 0,.slice none 0 0] 110)).setRow wr.heap.size (ruC ⟨r.br,⟨uA,un,uc⟩,⟨tA,tn,tc⟩⟩).toArray).heap[wr.heap.size]? =some (.cells (ruC ⟨r.br,⟨uA,un,uc⟩,⟨tA,tn,tc⟩⟩).toArray 110)):=setRow_heap _ _ _ _ _ _ (aT wr _);have hA:yK (Below w.heap.size w ((wr.alloc (.cells #[.bool false,.slice none 0 0,.slice none 0 0] 110)).setRow wr.heap.size (ruC ⟨r.br,⟨uA,un,uc⟩,⟨tA,tn,tc⟩⟩).toArray)):=below_setRow (HB.o.alloc hz _) hz _;have hH:yK (Below wr.heap.size wr ((wr.alloc (.cells #[.bool false,.slice none 0 0,.slice none 0 0] 110)).setRow wr.heap.size (ruC ⟨r.br,⟨uA,un,uc⟩,⟨tA,tn,tc⟩⟩).toArray)):=below_setRow ((aB _ wr).alloc yQ _) yQ _;go_upto_region 9 with (first
    | (refine wpList_load_mid rfl 110 (.tmp 33) rfl bp (o+k * 3) rfl (ruC ⟨r.br,⟨uA,un,uc⟩,⟨tA,tn,tc⟩⟩) _ Hk hu rfl (by rw [hi];rfl) ?_)
    | (refine wpList_store_row rfl 110 (.tmp 9) (.tmp 34) rfl (wr.heap.size) (ruC ⟨r.br,⟨uA,un,uc⟩,⟨tA,tn,tc⟩⟩).toArray rfl rfl 110 _ (aT wr _) (by rw [hi];rfl) rfl (V5h _) ?_))
   have hD:=zW (HD.o.of_block (w':=(wr.alloc (.cells #[.bool false,.slice none 0 0,.slice none 0 0] 110)).setRow wr.heap.size (ruC ⟨r.br,⟨uA,un,uc⟩,⟨tA,tn,tc⟩⟩).toArray) (hH.o.block _ HD.o.lt));have hF:=zW (HK.o.of_block (w':=(wr.alloc (.cells #[.bool false,.slice none 0 0,.slice none 0 0] 110)).setRow wr.heap.size (ruC ⟨r.br,⟨uA,un,uc⟩,⟨tA,tn,tc⟩⟩).toArray) (hH.o.block _ HK.o.lt));have hw:=zW (hQ.o.below hH.o yQ);have hI:=zW (hP.o.below hH.o yQ);have HT:D < wr.heap.size:=HD.o.lt;have HV:K < wr.heap.size:=HK.o.lt;have hn:wr.heap.size < ((wr.alloc (.cells #[.bool false,.slice none 0 0,.slice none 0 0] 110)).setRow wr.heap.size (ruC ⟨r.br,⟨uA,un,uc⟩,⟨tA,tn,tc⟩⟩).toArray).heap.size:=(aN.1 HQ.o).1;clear HD HK HB hH hQ hP Hk hz HC il;generalize wr.heap.size=q at HQ hA hD hF hw hI HT HV hn ⊢;generalize (wr.alloc (.cells #[.bool false,.slice none 0 0,.slice none 0 0] 110)).setRow q (ruC ⟨r.br,⟨uA,un,uc⟩,⟨tA,tn,tc⟩⟩).toArray=wr4 at HQ hA hD hF hw hI hn ⊢;change yK (RdE atC 34 wr4 (.slice uA un uc) r.bf) at hw
   change yK (RdE atC 34 wr4 (.slice tA tn tc) r.af) at hI
   have z0:wr4.cell? ⟨q,0,none⟩=some (.bool r.br):=(by rw [bV _ _ _ _ _ _ HQ.o];rfl);have z1:wr4.cell? ⟨q,1,none⟩=some (.slice uA un uc):=(by rw [bV _ _ _ _ _ _ HQ.o];rfl);have z2:wr4.cell? ⟨q,2,none⟩=some (.slice tA tn tc):=(by rw [bV _ _ _ _ _ _ HQ.o];rfl);have hY:yK (∀ W,Below wr4.heap.size wr4 W→(Instr.loadAt 108 (.pointer (some ⟨q,1,none⟩))).run prog W=.ok (.slice uA un uc) W):=fun W h=>Q4j ((h.cell (p:=⟨q,1,none⟩) hn).trans z1);have hN:yK (∀ W,Below wr4.heap.size wr4 W→(Instr.loadAt 108 (.pointer (some ⟨q,2,none⟩))).run prog W=.ok (.slice tA tn tc) W):=fun W h=>Q4j ((h.cell (p:=⟨q,2,none⟩) hn).trans z2);obtain ⟨hJ,Hh⟩:=Hz;refine zqR (l0:=bL 11 0) 11 kr ?_;show let o:=_;let q0:=_;let a0:=_;wpAny prog _ o q0 _ _ a0 _
   intro o q0 a0;let a_:Act:=(((a0.put (some 35) (.pointer (some ⟨q,1,none⟩))).put (some 37) (.string s)).put (some 39) (.pointer (some ⟨q,2,none⟩))).put (some 42) (.string bk)
   let a_0:Act:=a_.put (some 36) (.slice uA un uc)
   let a_1:Act:=a_.put (some 40) (.slice tA tn tc)
   let a_02:Nat→Act:=fun g1=>a_0.put (some 38) (.slice (some ⟨g1,0,none⟩) (s.size+1) (s.size+1))
   let a_01:Act:=a_0.put (some 40) (.slice tA tn tc)
   let a_012:Nat→Act:=fun g1=>(a_02 g1).put (some 40) (.slice tA tn tc)
   let a_0123:Nat→Value→Act:=fun g1 v6=>(a_012 g1).put (some 41) (v6)
   let a_01234:Nat→Value→Nat→Act:=fun g1 v6 g2=>(((a_0123 g1 v6).put (some 43) (.slice (some ⟨g2,0,none⟩) (s.size+1) (s.size+1))).put (some 10) (.slice (some ⟨g1,0,none⟩) (s.size+1) (s.size+1))).put (some 11) (.slice (some ⟨g2,0,none⟩) (s.size+1) (s.size+1))
   have S01234:∀ (W:World) (g1:Nat) (v6:Value) (g2:Nat),Below wr4.heap.size wr4 W→wr4.heap.size≤g1→W.rowIs g1 4 (s.size+1) (fun j=>.bool (N2 s r.bf Q6m j))→wr4.heap.size≤g2→W.rowIs g2 4 (s.size+1) (fun j=>.bool (N2 bk r.af.reverse Q6m j))→wpAny prog .any o q0 0 (bL 11 2047) (a_01234 g1 v6 g2) W:=by
    intro W g1 v6 g2 HB hg1 hr1 hg2 hr2;simp only [a_01234,a_0123,a_012,a_02,a_0,a_,a0,Act.put,zZ,zY,zX];refine bW yZ ?_ _;simp only [q0];have Hr:=zW hr1;have Hs:=zW hr2;have hC:=zW HB;have Hq:=zW (hD.o.of_block (hC.o.block _ hD.o.lt));have Ht:=zW (hF.o.of_block (hC.o.block _ hF.o.lt));have Ho:=zW (hA.o.trans (hC.o.mono hA.o.size));have z0w:=(hC.o.cell (p:=⟨q,0,none⟩) hn).trans z0;have HZ:q < g1:=bC hn hg1;have ia:q < g2:=bC hn hg2;clear hr1 hr2 HB hC z0 z1 z2 hY hN hD hF hA hw hI HQ hn;go_wp2_with fail
    obtain ⟨wo2,Hd⟩:∃ wo,yK (wo=W):=⟨W,rfl⟩;go_loopg [12] (s.size+1) (fun gk iv wr=>∃ i:Nat,iv=.int .i64 i∧1≤i∧i≤s.size+1∧yK (wr.rowIs D 4 (s.size+1) (fun j=>.bool (if j < i then decide (0 < j∧j < s.size) && F7 (rs.take (k+1)) s j else decide (0 < j∧j < s.size) && F7 (rs.take k) s j)))∧yK (wr.rowIs K 4 (s.size+1) (fun j=>.bool (if j < i then decide (0 < j∧j < s.size) && U6 (rs.take (k+1)) s j else decide (0 < j∧j < s.size) && U6 (rs.take k) s j)))∧yK (wr.rowIs g1 4 (s.size+1) (fun j=>.bool (N2 s r.bf Q6m j)))∧yK (wr.rowIs g2 4 (s.size+1) (fun j=>.bool (N2 bk r.af.reverse Q6m j)))∧wr.cell? ⟨q,0,none⟩=some (.bool r.br)∧yK (Below w.heap.size w wr)∧s.size+1 - i≤gk)
    case atStart=>exact ⟨1,rfl,yQ,yY,Hq.o.congr (fun j _=>by
     by_cases h:j < 1
     ·rw [aK h,show j=0 by omega];rfl
     ·rw [aE h]),Ht.o.congr (fun j _=>by
     by_cases h:j < 1
     ·rw [aK h,show j=0 by omega];rfl
     ·rw [aE h]),Hr.o,Hs.o,z0w,Ho.o,yY⟩
    case round=>
     clear Hq Ht Hr Hs z0w Ho Hd;obtain ⟨i,rfl,Hj,it,ho,hp,hd,he,z0i,hB,ic⟩:=hrel;by_cases hil:i < s.size
     ·have ie:(i:Int) < (s.size:Int):=yY;have ir:(0:Int)≤(i:Int):=yY;have iu:(i:Int) < (s.size:Int)+1:=yY;obtain ⟨t,ht⟩:∃ t,t+i=s.size:=⟨s.size - i,yY⟩;have im:(s.size:Int) - (i:Int)=(t:Int):=yY;have iA:(0:Int)≤(t:Int):=yY;have iB:(t:Int) < (s.size:Int)+1:=yY;have qd:=ho.o.cell (i:=i) yY;rw [aE (Nat.lt_irrefl i),cR ⟨Hj,hil⟩,Bool.true_and] at qd;have qk:=hp.o.cell (i:=i) yY;have qb:=hd.o.cell (i:=i) yY;rw [V2i r.bf s i yY] at qb;have qa:=he.o.cell (i:=t) yY;rw [show t=s.size - i by omega,V2h r.af hq Hp.o i yY,show s.size - i=t by omega] at qa;have hh:F7 (rs.take (k+1)) s i=(F7 (rs.take k) s i || (Q0x r.bf (s.extract 0 i) && Q3o r.af (s.extract i s.size))):=(by rw [Hc.o,Z1o];rfl);have hm:U6 (rs.take (k+1)) s i=if F7 (rs.take k) s i=true then U6 (rs.take k) s i else ((Q0x r.bf (s.extract 0 i) && Q3o r.af (s.extract i s.size)) && r.br):=by rw [Hc.o,Y6w];rfl
      have hy:=X5b (rs.take k) s i;cases hfd:F7 (rs.take k) s i with
      | true=>
        rw [hfd] at qd;have ha:(decide (0 < i∧i < s.size) && F7 (rs.take (k+1)) s i)=(decide (0 < i∧i < s.size) && F7 (rs.take k) s i):=(by rw [hh,hfd];rfl);have hc:(decide (0 < i∧i < s.size) && U6 (rs.take (k+1)) s i)=(decide (0 < i∧i < s.size) && U6 (rs.take k) s i):=(by rw [hm,aK hfd]);clear hh hm hy;have hE:=zW (Q4x ho.o ha);have hG:=zW (Q4x hp.o hc);clear ha hc;go_wp2_with fail
        go_roundg (s.size+1 - (i+1))
        case measure=>omega
        case rel=>exact ⟨i+1,by go_num,yY,yY,hE.o,hG.o,hd.o,he.o,z0i,hB.o,yQ⟩
      | false=>
        rw [hfd] at qd;cases hsb:Q0x r.bf (s.extract 0 i) with
        | false=>
          rw [hsb] at qb;have ha:(decide (0 < i∧i < s.size) && F7 (rs.take (k+1)) s i)=(decide (0 < i∧i < s.size) && F7 (rs.take k) s i):=(by rw [hh,hfd,hsb];rfl);have hc:(decide (0 < i∧i < s.size) && U6 (rs.take (k+1)) s i)=(decide (0 < i∧i < s.size) && U6 (rs.take k) s i):=(by rw [hm,aE (by rw [hfd];exact eK),hsb,hy hfd];rfl);clear hh hm hy;have hE:=zW (Q4x ho.o ha);have hG:=zW (Q4x hp.o hc);clear ha hc;go_wp2_with fail
          go_roundg (s.size+1 - (i+1))
          case measure=>omega
          case rel=>exact ⟨i+1,by go_num,yY,yY,hE.o,hG.o,hd.o,he.o,z0i,hB.o,yQ⟩
        | true=>
          rw [hsb] at qb;cases hpa:Q3o r.af (s.extract i s.size) with
          | false=>
            rw [hpa] at qa;have ha:(decide (0 < i∧i < s.size) && F7 (rs.take (k+1)) s i)=(decide (0 < i∧i < s.size) && F7 (rs.take k) s i):=(by rw [hh,hfd,hsb,hpa];rfl);have hc:(decide (0 < i∧i < s.size) && U6 (rs.take (k+1)) s i)=(decide (0 < i∧i < s.size) && U6 (rs.take k) s i):=(by rw [hm,aE (by rw [hfd];exact eK),hsb,hpa,hy hfd];rfl);clear hh hm hy;have hE:=zW (Q4x ho.o ha);have hG:=zW (Q4x hp.o hc);clear ha hc;go_wp2_with fail
            go_roundg (s.size+1 - (i+1))
            case measure=>omega
            case rel=>exact ⟨i+1,by go_num,yY,yY,hE.o,hG.o,hd.o,he.o,z0i,hB.o,yQ⟩
          | true=>
            rw [hpa] at qa;have ha:F7 (rs.take (k+1)) s i=true:=(by rw [hh,hfd,hsb,hpa];rfl);have hc:U6 (rs.take (k+1)) s i=r.br:=(by rw [hm,aE (by rw [hfd];exact eK),hsb,hpa];rfl);clear hh hm hy;have fd:=ho.o.frozen i;have fk:=hp.o.frozen i;have iy:¬ D=K:=yY;have ik:¬ K=D:=yY;have HG:yK (((wr.drew.setCell ⟨D,i,none⟩ (.bool true)).setCell ⟨K,i,none⟩ (.bool r.br)).rowIs D 4 (s.size+1) (fun j=>.bool (if j < i+1 then decide (0 < j∧j < s.size) && F7 (rs.take (k+1)) s j else decide (0 < j∧j < s.size) && F7 (rs.take k) s j))):=(Z6j ho.o.drew true (by rw [ha,cR ⟨Hj,hil⟩];rfl)).of_block (aV _ _ _ _ (show D≠K by omega));have HI:yK (((wr.drew.setCell ⟨D,i,none⟩ (.bool true)).setCell ⟨K,i,none⟩ (.bool r.br)).rowIs K 4 (s.size+1) (fun j=>.bool (if j < i+1 then decide (0 < j∧j < s.size) && U6 (rs.take (k+1)) s j else decide (0 < j∧j < s.size) && U6 (rs.take k) s j))):=Z6j (hp.o.drew.of_block (aV _ _ _ _ (show K≠D by omega))) r.br (by rw [hc,cR ⟨Hj,hil⟩];rfl);have hU:yK (((wr.drew.setCell ⟨D,i,none⟩ (.bool true)).setCell ⟨K,i,none⟩ (.bool r.br)).rowIs g1 4 (s.size+1) (fun j=>.bool (N2 s r.bf Q6m j))):=(hd.o.drew.of_block (aV _ _ _ _ (show g1≠D by omega))).of_block (aV _ _ _ _ (show g1≠K by omega));have hV:yK (((wr.drew.setCell ⟨D,i,none⟩ (.bool true)).setCell ⟨K,i,none⟩ (.bool r.br)).rowIs g2 4 (s.size+1) (fun j=>.bool (N2 bk r.af.reverse Q6m j))):=(he.o.drew.of_block (aV _ _ _ _ (show g2≠D by omega))).of_block (aV _ _ _ _ (show g2≠K by omega));have HR:yK (((wr.drew.setCell ⟨D,i,none⟩ (.bool true)).setCell ⟨K,i,none⟩ (.bool r.br)).cell? ⟨q,0,none⟩=some (.bool r.br)):=by
             show _=_;rw [dX (w:=wr.drew.setCell ⟨D,i,none⟩ (.bool true)) (aV _ _ _ _ (show q≠K by omega)),dX (w:=wr.drew) (aV _ _ _ _ (show q≠D by omega))];exact z0i
            have HE:yK (Below w.heap.size w ((wr.drew.setCell ⟨D,i,none⟩ (.bool true)).setCell ⟨K,i,none⟩ (.bool r.br))):=(hB.o.drew.setCell (p:=⟨D,i,none⟩) (show w.heap.size≤D by omega) _).setCell (p:=⟨K,i,none⟩) (show w.heap.size≤K by omega) _;go_upto_region 14 with fail
            go_region
            go_wp2_with fail
            go_roundg (s.size+1 - (i+1))
            case measure=>omega
            case rel=>exact ⟨i+1,by go_num,yY,yY,HG.o,HI.o,hU.o,hV.o,HR.o,HE.o,yQ⟩
     ·have iq:s.size≤i:=yY;have ie:¬ (i:Int) < (s.size:Int):=yY;have HH:yK (wr.rowIs D 4 (s.size+1) (fun j=>.bool (decide (0 < j∧j < s.size) && F7 (rs.take (k+1)) s j))):=ho.o.congr fun j hj=>by
       by_cases h:j < i
       ·rw [aK h]
       ·rw [aE h,cD yY];rfl
      have HL:yK (wr.rowIs K 4 (s.size+1) (fun j=>.bool (decide (0 < j∧j < s.size) && U6 (rs.take (k+1)) s j))):=hp.o.congr fun j hj=>by
       by_cases h:j < i
       ·rw [aK h]
       ·rw [aE h,cD yY];rfl
      go_wp2_with fail
      go_roundg (xs.length - (k+1))
      case measure=>omega
      case rel=>exact ⟨k+1,by go_num,yY,HH.o,HL.o,hB.o,yQ⟩
   have S0123:∀ (W:World) (g1:Nat) (v6:Value),Below wr4.heap.size wr4 W→wr4.heap.size≤g1→W.rowIs g1 4 (s.size+1) (fun j=>.bool (N2 s r.bf Q6m j))→RdE atC 34 W v6 r.af.reverse→wpAny prog .any o q0 3 (bL 11 255) (a_0123 g1 v6) W:=by
    intro W g1 v6 HB hg1 hr1 hr6;simp only [a_0123,a_012,a_02,a_0,a_,a0,Act.put,zZ,zY,zX];refine zqo 8 rfl ?_;refine Q0s (v6) (.string bk) rfl func102 (X3q r.af.reverse bk v6 W hr6 yY yV (fun x hx=>hO.o.2 x (List.mem_reverse.1 hx))) ?_;rintro e W7 ⟨g2,rfl,hg2,hr2,hb⟩;refine ⟨_,rfl,?_⟩;rw [hq] at hr2 ⊢;refine zqG 9 10 (.slice (some ⟨g1,0,none⟩) (s.size+1) (s.size+1)) rfl ?_;refine zqG 10 11 (.slice (some ⟨g2,0,none⟩) (s.size+1) (s.size+1)) rfl ?_;exact zqX (S01234 W7 g1 v6 g2 (HB.trans (hb.mono HB.size)) hg1 (hr1.of_block (hb.block _ hr1.lt)) (aP HB.size hg2) hr2)
   have S012:∀ (W:World) (g1:Nat),Below wr4.heap.size wr4 W→wr4.heap.size≤g1→W.rowIs g1 4 (s.size+1) (fun j=>.bool (N2 s r.bf Q6m j))→wpAny prog .any o q0 4 (bL 11 191) (a_012 g1) W:=by
    intro W g1 HB hg1 hr1;simp only [a_012,a_02,a_0,a_,a0,Act.put,zZ,zY,zX];refine zqo 6 rfl ?_;refine Q1r (.slice tA tn tc) rfl func103 (V5b r.af _ W (hI.o.below HB yQ) Hh) ?_;rintro e W6 ⟨v6,rfl,hr6,hb⟩;refine ⟨_,rfl,?_⟩;exact zqX (S0123 W6 g1 v6 (HB.trans (hb.mono HB.size)) hg1 (hr1.of_block (hb.block _ hr1.lt)) hr6)
   have S02:∀ (W:World) (g1:Nat),Below wr4.heap.size wr4 W→wr4.heap.size≤g1→W.rowIs g1 4 (s.size+1) (fun j=>.bool (N2 s r.bf Q6m j))→wpAny prog .any o q0 5 (bL 11 159) (a_02 g1) W:=by
    intro W g1 HB hg1 hr1;simp only [a_02,a_0,a_,a0,Act.put,zZ,zY,zX];refine zqo 5 rfl ?_;refine zqL (.slice tA tn tc) rfl (.pointer (some ⟨q,2,none⟩)) (hN.o W HB) ?_;exact zqX (S012 W g1 HB hg1 hr1)
   have S01:∀ (W:World),Below wr4.heap.size wr4 W→wpAny prog .any o q0 5 (bL 11 183) a_01 W:=by
    intro W HB;simp only [a_01,a_0,a_,a0,Act.put,zZ,zY,zX];refine zqo 3 rfl ?_;refine Q0s (.slice uA un uc) (.string s) rfl func102 (X3q r.bf s _ W (hw.o.below HB yQ) yY hJ hO.o.1) ?_;rintro e W5 ⟨g1,rfl,hg1,hr1,hb⟩;refine ⟨_,rfl,?_⟩;exact zqX (S012 W5 g1 (HB.trans (hb.mono HB.size)) (aP HB.size hg1) hr1)
   have S0:∀ (W:World),Below wr4.heap.size wr4 W→wpAny prog .any o q0 6 (bL 11 151) a_0 W:=by
    intro W HB;simp only [a_0,a_,a0,Act.put,zZ,zY,zX];refine zqt 3 5 rfl rfl ?_ ?_
    ·refine Q0s (.slice uA un uc) (.string s) rfl func102 (X3q r.bf s _ W (hw.o.below HB yQ) yY hJ hO.o.1) ?_;rintro e W5 ⟨g1,rfl,hg1,hr1,hb⟩;refine ⟨_,rfl,?_⟩;exact zqX (S02 W5 g1 (HB.trans (hb.mono HB.size)) (aP HB.size hg1) hr1)
    ·refine zqL (.slice tA tn tc) rfl (.pointer (some ⟨q,2,none⟩)) (hN.o W HB) ?_;exact zqX (S01 W HB)
   have S1:∀ (W:World),Below wr4.heap.size wr4 W→wpAny prog .any o q0 6 (bL 11 181) a_1 W:=by
    intro W HB;simp only [a_1,a_,a0,Act.put,zZ,zY,zX];refine zqo 1 rfl ?_;refine zqL (.slice uA un uc) rfl (.pointer (some ⟨q,1,none⟩)) (hY.o W HB) ?_;exact zqX (S01 W HB)
   have S:∀ (W:World),Below wr4.heap.size wr4 W→wpAny prog .any o q0 11 (bL 11 0) a0 W:=by
    intro W HB;simp only [a0,Act.put,zZ,zY,zX];refine zqF 0 35 (.pointer (some ⟨q,1,none⟩)) rfl rfl (.pointer (some ⟨q,0,none⟩)) ?_;refine zqM 2 37 (.string s) rfl ?_;refine zqF 4 39 (.pointer (some ⟨q,2,none⟩)) rfl rfl (.pointer (some ⟨q,0,none⟩)) ?_;refine zqM 7 42 (.string bk) rfl ?_;simp only [Act.put,zZ,zY,zX];refine zqt 1 5 rfl rfl ?_ ?_
    ·refine zqL (.slice uA un uc) rfl (.pointer (some ⟨q,1,none⟩)) (hY.o W HB) ?_;exact zqX (S0 W HB)
    ·refine zqL (.slice tA tn tc) rfl (.pointer (some ⟨q,2,none⟩)) (hN.o W HB) ?_;exact zqX (S1 W HB)
   exact S _ (Q1 (aB _ wr4) 1)
  ·obtain rfl:k=xs.length:=yY;have ih:¬ (xs.length:Int) < (xs.length:Int):=yY;have hX:yK (wr.rowIs K 4 (s.size+1) (fun j=>.bool (Y0u rs s j))):=HK.o.congr fun j hj=>by
    rw [bP io];rfl
   have e0:Q9n (Y0u rs s) (s.size+1)=S5 rs s:=Z0z rs s yY;have E0:=zW e0;clear HD HK e0;obtain ⟨M,hM⟩:∃ M,yK (M=wr.heap.size):=⟨_,rfl⟩;have HU:K < M:=(by rw [hM.o];exact hX.o.lt);have HA:w.heap.size≤M:=(by rw [hM.o];exact HB.o.size);have Hu:M≤wr.heap.size:=(by rw [hM.o];exact yQ);go_wp2_with fail
   obtain ⟨wo3,He⟩:∃ wo,yK (wo=wr):=⟨wr,rfl⟩;go_loopg [13,81] (s.size+1) (fun gk ov kv wr=>∃ (k:Nat) (q:List Int) (A:Option Addr) (c:Nat),ov=.slice A q.length c∧kv=.int .i64 k∧k≤s.size+1∧yK (q=Q9n (Y0u rs s) k)∧yK (OwnE 3 V7 1 wr M (.slice A q.length c) q)∧yK (wr.rowIs K 4 (s.size+1) (fun j=>.bool (Y0u rs s j)))∧M≤wr.heap.size∧yK (Below w.heap.size w wr)∧q.length≤k∧s.size+1 - k≤gk)
   case atStart=>exact ⟨0,[],none,0,rfl,rfl,yY,rfl,OwnE.nil,hX.o,Hu,HB.o,yQ,yY⟩
   case round=>
    clear hX HB Hu He hM;obtain ⟨k,q,A,c,rfl,rfl,iw,HQ,HO,hW,Hg,hf,iz,ib⟩:=hrel;by_cases hkl2:k < s.size+1
    ·have ii:(k:Int) < (s.size:Int)+1:=yY;have ig:(0:Int)≤(k:Int):=yY;have qk:=hW.o.cell (i:=k) hkl2;have hv:yK (Q9n (Y0u rs s) (k+1)=q++if Y0u rs s k=true then [(k:Int)] else []):=(by show _=_;rw [Q6d,HQ.o]);cases hb:Y0u rs s k with
     | false=>
       rw [hb] at qk hv;rw [aE eK,aX] at hv;go_wp2_with fail
       go_roundg (s.size+1 - (k+1))
       case measure=>omega
       case rel=>exact ⟨k+1,q,A,c,rfl,by go_num,yY,hv.o.symm,HO.o,hW.o,Hg,hf.o,yY,yQ⟩
     | true=>
       rw [hb] at qk hv;rw [aK rfl] at hv;go_wp2_with (at_builtin;go_must (refine Z7 rfl (.tmp 87) (.tmp 89) 22 3 rfl underlying22 _ 1 8 X3w rfl yX M (.slice A q.length c) q.length (q.flatMap V7) rfl (U1 HO.o ((aB _ wr).alloc yQ _) yQ) ⟨wr.heap.size,0,none⟩ 1 (V7 k) rfl rfl (N4 wr (V7 k) 3) (X3v k) yY yX yV ?_);intro g9 cap w9 hown9 hbg9 hbel9 hgrow9)
       have hR:=hbel9 M wr yQ ((aB M wr).alloc Hg (.cells (V7 k).toArray 3));have HF:=zW (hf.o.trans (hR.mono HA));have HM:yK (OwnE 3 V7 1 w9 M (.slice (some ⟨g9,0,none⟩) (q.length+1) cap) (q++[(k:Int)])):=OwnE.snoc hown9;have HJ:=zW (hW.o.of_block (hR.block _ HU));have HW:=aP Hg hR.size;clear hown9 hbel9 hgrow9 hR;go_wp2_with fail
       go_roundg (s.size+1 - (k+1))
       case measure=>omega
       case rel=>exact ⟨k+1,q++[(k:Int)],some ⟨g9,0,none⟩,cap,by (show Value.slice _ _ _=Value.slice _ _ _);rw [aA];rfl,by go_num,yY,hv.o.symm,by (show OwnE _ _ _ _ _ _ _);rw [aA];exact HM.o,HJ.o,HW,HF.o,by rw [aA];show q.length+1≤k+1;omega,yQ⟩
    ·obtain rfl:k=s.size+1:=yY;have ii:¬ (((s.size+1:Nat)):Int) < (s.size:Int)+1:=yY;have E1:yK (q=S5 rs s):=HQ.o.trans E0.o;go_wp2_with fail
     rw [Ha.o];have h:=Y3 HO.o HA;rw [←E1.o];exact ⟨_,rfl,h,hf.o⟩
theorem V6d (s:fY) (w:World) (hs:s.size≤maxLen):
 Calls prog 64 #[.string s] w fun e w'=>∃ x y:Nat,V0z s.data.toList x y∧e=.returned (.tuple #[.int .i64 x,.int .i64 y])∧w=w':=by
 unfold maxLen at hs;have hd:=aC s;have HZ:=zW hd;clear hd;go_enter func64,ntmps64
 go_wp2
 go_loop [2] (fun i=>∃ k:Nat,k≤s.size∧i=.int .i64 k∧yK (∀ (j:Nat) (c:UInt8),j < k→s.data.toList[j]? =some c→Q6i c.toNat=2)) (fun i=>s.size - (intOf i).toNat)
 case atStart=>exact ⟨0,yY,rfl,fun j c h=>yY⟩
 case round=>
  obtain ⟨k,hk,rfl,HR⟩:=hrel;by_cases hlt:k < s.size
  ·have he:s[k].toNat < 256:=s[k].toNat_lt;have hgk:=zW (show s.data.toList[k]? =some s[k] from aF (by rw [←aC];exact hlt));by_cases hsp:Q6i (s[k].toNat:Int)=2
   ·have ht:(Q6i (s[k].toNat:Int)==2)=true:=(by rw [hsp];rfl);have HP:=zW hsp;clear hsp;go_wp2_with (go_at_call 97;refine (X8s _ _ yY yY).mono ?_;rintro e w' ⟨rfl,rfl⟩)
    refine ⟨⟨k+1,yY,by go_num,fun j c hj hc=>?_⟩,by simp [intOf];try omega⟩;by_cases hjk:j=k
    ·subst hjk;rw [hgk.o] at hc;injection hc with hc;subst hc;exact HP.o
    ·exact HR.o j c yY hc
   ·have ht:(Q6i (s[k].toNat:Int)==2)=false:=(by simpa using hsp);have HP:=zW hsp;clear hsp;go_wp2_with (go_at_call 97;refine (X8s _ _ yY yY).mono ?_;rintro e w' ⟨rfl,rfl⟩)
    go_loop [3] (fun i=>∃ u:Nat,k≤u∧u < s.size∧i=.int .i64 ((u:Int)+1)∧yK (∀ (j:Nat) (c:UInt8),u+1≤j→s.data.toList[j]? =some c→Q6i c.toNat=2)) (fun i=>(intOf i).toNat)
    case atStart=>
     refine ⟨s.size - 1,yY,yY,by go_num,fun j c hj hc=>?_⟩;have:=(aM.1 hc).1;rw [←HZ.o] at this;omega
    case round=>
     obtain ⟨u,hi,hh,rfl,HU⟩:=hrel;have h255':s[u].toNat < 256:=s[u].toNat_lt;have hb:=zW (show s.data.toList[u]? =some s[u] from aF (by rw [←aC];exact hh));by_cases hsp2:Q6i (s[u].toNat:Int)=2
     ·have hf:k≠u:=by
       rintro rfl;exact HP.o hsp2
      have hg:(Q6i (s[u].toNat:Int)==2)=true:=(by rw [hsp2];rfl);have ha:=zW hsp2;clear hsp2;go_wp2_with (go_at_call 97;refine (X8s _ _ yY yY).mono ?_;rintro e w' ⟨rfl,rfl⟩)
      refine ⟨⟨u - 1,yY,yY,by go_num,fun j c hj hc=>?_⟩,by simp [intOf];try omega⟩;by_cases hju:j=u
      ·subst hju;rw [hb.o] at hc;injection hc with hc;subst hc;exact ha.o
      ·exact HU.o j c yY hc
     ·have hg:(Q6i (s[u].toNat:Int)==2)=false:=(by simpa using hsp2);have ha:=zW hsp2;clear hsp2;have hf:((k:Int)==(u:Int)+1)=false:=yV;go_wp2_with (go_at_call 97;refine (X8s _ _ yY yY).mono ?_;rintro e w' ⟨rfl,rfl⟩)
      go_ret2
      refine ⟨k,u+1,.inr ⟨yY,by rw [←HZ.o];omega,fun c hc=>?_,fun c hc=>?_,fun j c hj hc=>HR.o j c hj hc,fun j c hj hc=>HU.o j c hj hc⟩,by go_num,rfl⟩
      ·rw [hgk.o] at hc;injection hc with hc;subst hc;exact HP.o
      ·rw [fM,hb.o] at hc;injection hc with hc;subst hc;exact ha.o
  ·obtain rfl:k=s.size:=yY;go_wp2
   go_loop [3] (fun i=>i=.int .i64 (s.size:Nat)) (fun i=>(intOf i).toNat)
   case atStart=>rfl
   case round=>
    subst hrel;go_wp2
    go_ret2
    refine ⟨0,0,.inl ⟨rfl,rfl,fun j c hc=>HR.o j c ?_ hc⟩,rfl,rfl⟩;have:=(aM.1 hc).1;rw [←HZ.o] at this;exact this
def Y9 (r:Nat×Nat):List Value:=[.int .i64 (r.1:Int),.int .i64 (r.2:Int)]
theorem Q0n (r:Nat×Nat):(Y9 r).length=2:=rfl
theorem Q5u:(prog.info? 54).map (fun i=>(i.zero,i.size,i.bytes))=some (some (.agg #[.int .i64 0,.int .i64 0]),2,16):=by kernel_rfl
theorem Z9n (r:Nat×Nat):∀ u∈Y9 r,u.oneCell'=true:=by
 intro u hu;simp [Y9] at hu;rcases hu with rfl | rfl<;>rfl
theorem U2x {w:World} {b:Nat} {v0 v1:Value} {t:TypeId} (h:w.heap[b]? =some (.cells #[v0,v1] t)):
 w.cell? ⟨b,0,none⟩=some v0∧w.cell? ⟨b,1,none⟩=some v1∧w.frozen? ⟨b,0,none⟩=false∧w.frozen? ⟨b,1,none⟩=false:=
 ⟨by rw [bV _ _ 0 _ _ _ h];rfl,by rw [bV _ _ 1 _ _ _ h];rfl,eP w b 0 _ _ h,eP w b 1 _ _ h⟩
theorem X4i {α:Type} {g:α→List Value} {w:World} {A:Option Addr} {n c:Nat} {l:List α} (h:RdE g 1 w (.slice A n c) l) (k:Nat) (x:α) (u:Value) (hx:l[k]? =some x) (hu:(g x)[0]? =some u):∃ b o,A=some ⟨b,o,none⟩∧b < w.heap.size∧w.cell? ⟨b,o+k,none⟩=some u:=by
 obtain ⟨b,o,hA,hb,hc⟩:=h.cells (by have:=(aM.1 hx).1;omega);refine ⟨b,o,hA,hb,?_⟩;have:=hc k x 0 u hx hu;rwa [show o+(k * 1+0)=o+k by omega] at this
theorem X9d (rs:List Ru) (vr:Value) (f:List Tk) (v:Value) (w:World) (hr:RdRu w vr rs) (hsm:V1b rs) (h1:RdT w v f) (hl:X3 f≤1000000) (hfl:f.length≤100000):
 Calls prog 31 #[vr,v] w (N6 54 Y9 2 w (E5 rs f)):=by
 obtain ⟨R,HF⟩:∃ R,yK (R=N6 54 Y9 2 w (E5 rs f)):=⟨_,rfl⟩;rw [←HF.o];obtain ⟨A,c,rfl,_,_⟩:=h1.shape;have Hm:=zW (Q9t f _ w h1 yY yY);have HK:=Q7j f;have iv:=X2a f;have hC:=zW (fun (u:World) (h:Below w.heap.size w u)=>Y6f rs vr (plS f) u (hr.below h yQ) hsm);have hH:=zW (fun (u:World) (h:Below w.heap.size w u)=>RdE.below h1 h yQ);have hW:=zW (Z4q rs f);have HI:=V7d rs (plS f);have hU:=zW (V1l rs (plS f));have Hi:yK (E5 rs f=Q9g (sqF f) 0 (Q4d f (bnF rs (plS f)))):=rfl;rw [Z0y] at hC;generalize bnF rs (plS f)=bn at hC hW HI hU Hi;generalize plS f=s at Hm hC HK HI hU;have ii:=V1x f bn;have Hg:=zW (fun k (h:k < bn.length)=>V7k f bn k h);have Hh:=zW (V1w f bn);generalize Q4d f bn=cs at hW Hi ii Hg Hh;obtain ⟨lv,Hb⟩:∃ lv,yK (lv=X3 f):=⟨_,rfl⟩;have iA:bn.length≤1000000:=yY;clear h1 hr;go_enter func31,ntmps31
 go_wp2_with (first
  | (go_at_call 60;refine Hm.o.mono ?_;rintro e w1 ⟨rfl,HH⟩;have hQ:=zW HH)
  | (go_at_call 59;refine (hC.o _ hQ.o).mono ?_;rintro e w2 ⟨v2,rfl,Hs,hL⟩;have hz:=zW (hQ.o.trans (hL.mono hQ.o.size));obtain ⟨Ab,cb,HT⟩:=Q0 Hs;rw [bA] at HT;subst HT))
 have HE:=zW (OwnE.rd (f:=V7) (m:=1) (fun _=>rfl) Hs);have Hd:=hz.o.size;have HD:=zW (fun (o:Int) (u:World) (h:Below w2.heap.size w2 u)=>Z2k f _ o u (hH.o u (hz.o.trans (h.mono Hd))) hl yY);have Hz:=zW (fun (u:World) (h:Below w2.heap.size w2 u)=>Q1f f _ u (hH.o u (hz.o.trans (h.mono Hd))) yY yY);clear Hs hL HH hQ Hm hC;obtain ⟨wo,ho⟩:∃ wo,yK (wo=w2):=⟨w2,rfl⟩;go_loopg [5,7,23] bn.length (fun gk ov bv jv wr=>∃ (k:Nat) (q:List Int) (Ac:Option Addr) (cc:Nat),ov=.slice Ac q.length cc∧jv=.int .i64 k∧k≤bn.length∧yK (q=(cs.map fun (x:Nat)=>(x:Int)).take k)∧q.length≤k∧yK (OwnE 3 V7 1 wr w2.heap.size (.slice Ac q.length cc) q)∧yK (Below w2.heap.size w2 wr)∧bn.length - k≤gk)
 case atStart=>exact ⟨0,[],none,0,rfl,rfl,aO _,by (show _=_);rw [cW],by simp,OwnE.nil,aB _ _,yY⟩
 case round=>
  clear ho;obtain ⟨k,q,Ac,cc,rfl,rfl,hk,HQ,HM,HO,HB,hgk⟩:=hrel;have hy:=HB.o.size;by_cases hkl:k < bn.length
  ·have iq:(k:Int) < (bn.length:Int):=yY;have ip:(0:Int)≤(k:Int):=yY;have hM:k < cs.length:=yY;have hN:(bn.map fun (x:Nat)=>(x:Int))[k]? =some (bn[k]:Int):=(by rw [cE,aF hkl];rfl);obtain ⟨b,o,rfl,hb,q1⟩:=X4i HE.o k _ _ hN rfl;rw [←HB.o.cell (p:=⟨b,o+k,none⟩) hb] at q1;have he:=hU.o _ (aL hkl);have hY:=zW (HD.o (bn[k]:Int) wr HB.o);have HJ:cs[k]=K8 (O9 f) bn[k]:=by
    have h:=Hg.o k hkl;rw [aF hM] at h;exact eA h
   rw [Z2l f bn[k] yY,←HJ] at hY;clear HJ;have hp:yK (q++[(cs[k]:Int)]=(cs.map fun (x:Nat)=>(x:Int)).take (k+1)):=by
    show _=_;rw [aH (by rw [bA];exact hM),←HQ.o,eS]
   generalize cs[k]=ck at hY hp;generalize bn[k]=bk at q1 hY;clear hN;have hL:b < wr.heap.size:=yY;go_wp2_with (first
    | (go_at_call 61;refine hY.o.mono ?_;rintro e w3 ⟨rfl,hc⟩;have hd:=zW (HB.o.trans (hc.mono hy));have hi:=zW (U1 HO.o hc yQ);have Hc:=hd.o.size;clear hc HB HO)
    | (at_builtin;go_must (refine Z7 rfl (.tmp 27) (.tmp 31) 22 3 rfl underlying22 _ 1 8 X3w rfl yX w2.heap.size (.slice Ac q.length cc) q.length (q.flatMap V7) rfl (U1 hi.o ((aB _ w3).alloc yQ _) yQ) ⟨w3.heap.size,0,none⟩ 1 (V7 ck) rfl rfl (N4 w3 (V7 ck) 3) (X3v ck) yY yX yV ?_);intro g9 cap w9 hown9 hbg9 hbel9 hgrow9))
   have hh:=hbel9 w2.heap.size w3 yQ ((aB w2.heap.size w3).alloc Hc (.cells (V7 ck).toArray 3));have hR:=zW (hd.o.trans hh);have hF:yK (OwnE 3 V7 1 w9 w2.heap.size (.slice (some ⟨g9,0,none⟩) (q.length+1) cap) (q++[(ck:Int)])):=OwnE.snoc hown9;clear hown9 hbel9 hgrow9 hh;go_wp2_with fail
   go_roundg (bn.length - (k+1))
   case measure=>omega
   case rel=>exact ⟨k+1,q++[(ck:Int)],some ⟨g9,0,none⟩,cap,by (show Value.slice _ _ _=Value.slice _ _ _);rw [aA];rfl,rfl,yY,hp.o,by rw [aA];show q.length+1≤k+1;omega,by (show OwnE _ _ _ _ _ _ _);rw [aA];exact hF.o,hR.o,yY⟩
  ·obtain rfl:k=bn.length:=yY;have hp:yK (q++[(lv:Int)]=(cs.map fun (x:Nat)=>(x:Int))):=by
    show _=_;have h:=aH (l:=cs.map fun (x:Nat)=>(x:Int)) (i:=bn.length) (by rw [bA];omega);have ih:cs[bn.length]'yY=X3 f:=by
     have h:=Hh.o;rw [aF yY] at h;exact eA h
    rw [bP (by rw [bA];omega),←HQ.o,eS,ih,←Hb.o] at h;exact h.symm
   have HL:q.length+1=cs.length:=by
    have:=congrArg List.length hp.o;rw [aA,bA] at this;exact this
   have Hn:=zW HL;have Hy:=zW (Hz.o wr HB.o);rw [←Hb.o] at Hy;have ir:lv≤1000000:=(by have:=Hb.o;omega);clear HL;go_upto_region 8 with (first
    | (go_at_call 62;refine Hy.o.mono ?_;rintro e w3 ⟨rfl,hc⟩;have hd:=zW (HB.o.trans (hc.mono hy));have hi:=zW (U1 HO.o hc yQ);have Hc:=hd.o.size;clear hc HB HO)
    | (at_builtin;go_must (refine Z7 rfl (.tmp 34) (.tmp 37) 22 3 rfl underlying22 _ 1 8 X3w rfl yX w2.heap.size (.slice Ac q.length cc) q.length (q.flatMap V7) rfl (U1 hi.o ((aB _ w3).alloc yQ _) yQ) ⟨w3.heap.size,0,none⟩ 1 (V7 lv) rfl rfl (N4 w3 (V7 lv) 3) (X3v lv) yY yX yV ?_);intro g9 cap w9 hown9 hbg9 hbel9 hgrow9))
   have hh:=hbel9 w2.heap.size w3 yQ ((aB w2.heap.size w3).alloc Hc (.cells (V7 lv).toArray 3));have hR:=zW (hd.o.trans hh);have hF:yK (OwnE 3 V7 1 w9 w2.heap.size (.slice (some ⟨g9,0,none⟩) (q.length+1) cap) (q++[(lv:Int)])):=OwnE.snoc hown9;rw [hp.o,Hn.o] at hF;rw [Hn.o];have Ho:=zW (OwnE.rd (f:=V7) (m:=1) (fun _=>rfl) hF.o);have hD:=zW (hz.o.trans (hR.o.mono Hd));clear hown9 hbel9 hgrow9 hh hF hR hd hi Hc HQ hp Hn HE HD Hz HM hgk hy hU Hg Hh HK iv hbg9 Hd hz;have ib:=Ho;have hG:=zW (fun (u:World) (h:Below w9.heap.size w9 u)=>Z0x f _ u (hH.o u (hD.o.trans (h.mono hD.o.size))) yY yY);go_wp2_with (go_at_call 63;refine (hG.o _ (aB _ _)).mono ?_;rintro e w10 ⟨v10,rfl,ho10,hb10⟩)
   have hn:=Y5h f;have ic:yK (spF f=(sqF f).map (·.2)):=rfl;have hI:=zW (OwnE.rd Z7g ho10);obtain ⟨As,cs10,Hu⟩:=Q0 ho10;subst Hu;have hV:=zW (hD.o.trans (hb10.mono hD.o.size));have Hp:=zW (Ho.o.below hb10 yQ);have HG:=zW (fun (p q:Nat) (u:World) (h:Below w10.heap.size w10 u) (iw:p≤q) (hq:q≤X3 f)=>Q9u f _ p q u (hH.o u (hV.o.trans (h.mono hV.o.size))) yY yY iw hq);have HY:=zW (fun p q=>X6m f 0 p q);have HC:yK (∀ p q,X3 (slI f 0 p q)≤X3 f):=fun p q=>by
    have h1:=Q1l (slI f 0 p q);rw [Z6b,bM,bG] at h1;have h2:=Q1l f;omega
   have Hq:yK (∀ p t,t≤X3 f→(plI (slI f 0 p t)).any (fun c=>!Q3e c)=true→∃ x y,sgF (sqF f) p t=[(x,y)]∧SegAt (spF f) p t x y):=fun p t ht ha=>U3y f p t ht ha;clear ho10 hb10 hG Ho hD hH;clear ic;generalize spF f=S at hI hn Hq;generalize X3 f=n at hl hn hW HG HC Hb Hq;have ie:=zW hn;clear hn;have hO:=hV.o.size;obtain ⟨wo,ho⟩:∃ wo,yK (wo=w10):=⟨w10,rfl⟩;go_loopg [9,10,12,13,14,15,16,17,43] cs.length (fun gk ov fv tv pv sv lv hv rv jv wr=>∃ (k p:Nat) (q:List (Nat×Nat)) (Ac:Option Addr) (cc:Nat),ov=.slice Ac q.length cc∧fv=.int .i64 p∧jv=.int .i64 k∧k≤cs.length∧yK (p=(0::cs).getD k 0)∧yK (q=Q9g (sqF f) 0 (cs.take k))∧q.length≤k∧yK (OwnE 54 Y9 2 wr w10.heap.size (.slice Ac q.length cc) q)∧yK (Below w10.heap.size w10 wr)∧cs.length - k≤gk)
   case atStart=>exact ⟨0,0,[],none,0,rfl,rfl,rfl,aO _,rfl,by (show _=_);rw [cW];rfl,by simp,OwnE.nil,aB _ _,yY⟩
   case round=>
    clear ho;obtain ⟨k,p,q,Ac,cc,rfl,rfl,rfl,hk,HP,HQ,HM,HO,HB,hgk⟩:=hrel;have hy:=HB.o.size;by_cases hkl:k < cs.length
    ·have iq:(k:Int) < (cs.length:Int):=yY;have ip:(0:Int)≤(k:Int):=yY;obtain ⟨Ht,iy⟩:=AscF.at_ k hkl hW.o;rw [←HP.o] at Ht;have hs:=zW (Y2s (sqF f) cs 0 k hkl);rw [←HP.o,←HQ.o] at hs;have Hj:yK ((0::cs).getD (k+1) 0=cs[k]):=by
      show _=_;rw [List.getD_cons_succ,bH,aF hkl];rfl
     obtain ⟨b,o,hA,hb,q1⟩:=X4i Hp.o k _ _ (show (cs.map fun (x:Nat)=>(x:Int))[k]? =some (cs[k]:Int) by rw [cE,aF hkl];rfl) rfl;injection hA with hA;injection hA with hA1 hA2 _;subst hA1 hA2;rw [←HB.o.cell (p:=⟨g9,0+k,none⟩) hb,bI] at q1;have hL:g9 < wr.heap.size:=yY;generalize cs[k]=t at Ht iy hs Hj q1;have iH:t≤1000000:=yY;have Ha:=zW (HG.o p t wr HB.o Ht yY);have ij:=HY.o p t;have im:=HC.o p t;have hJ:=zW (Hq.o p t yY);have hE:=zW (U3z f p t);generalize slI f 0 p t=g at Ha ij im hJ hE;have hX:=zW (fun (v:Value) (u:World) (h:RdT u v g)=>Q9t g v u h yY yY);have il:=Q7j g;have ik:=X2a g;have Hx:yK ((plS g).data.toList=plI g):=(by show (plI g).toArray.toList=_;simp);have hu:=zW (fun (u:World)=>V6d (plS g) u (by unfold maxLen;omega));rw [Hx.o] at hu;generalize plI g=gl at hu hJ hE;generalize plS g=gs at hX hu;clear il ik Hx;by_cases ha:gl.any (fun c=>!Q3e c)=true
     ·obtain ⟨x,y,HS,hK⟩:=hJ.o ha;rw [HS] at hs;have hP:=zW hK;have ix:=hK.px;have iI:=hK.xy;have iK:=hK.yq;clear HS hK hJ hE;go_upto_region 17 with (first
       | (go_at_call 47;refine Ha.o.mono ?_;rintro e w3 ⟨v3,rfl,hx,hc⟩;obtain ⟨A3,c3,Hv⟩:=Q0 hx;subst Hv;have hd:=zW (HB.o.trans (hc.mono hy));have hZ:=zW (OwnE.rd Q5 hx);have hi:=zW (U1 HO.o hc yQ))
       | (go_at_call 60;refine (hX.o _ _ hZ.o).mono ?_;rintro e w4 ⟨rfl,hw⟩;have hB:=zW (hd.o.trans (hw.mono hd.o.size));have Hl:=zW (U1 hi.o hw yQ))
       | (go_at_call 64;refine (hu.o _).mono ?_;rintro e w5 ⟨x9,y9,hT,rfl,rfl⟩;have HU:=(X3a hT).2 ha;have Hw:(x9:Int) < (y9:Int):=yY))
      have HX:yK ((w4.alloc (.cells #[.int .i64 (p:Int),.int .i64 (t:Int)] 54)).heap[w4.heap.size]? =some (.cells #[.int .i64 (p:Int),.int .i64 (t:Int)] 54)):=aT w4 _;have HA:=zW ((aB w4.heap.size w4).alloc yQ (.cells #[.int .i64 (p:Int),.int .i64 (t:Int)] 54));have HV:=hB.o.size;clear hc hx hw hZ hd hi HO HB Ha hX hu hT HU q1 hb hL;go_wp2_with fail
      generalize w4.alloc (.cells #[.int .i64 (p:Int),.int .i64 (t:Int)] 54)=w5 at HX HA ⊢;obtain ⟨r,hr⟩:∃ r,yK (r=w4.heap.size):=⟨_,rfl⟩;rw [←hr.o] at HX ⊢;have HN:w4.heap.size≤r:=fP hr.o.symm;obtain ⟨wo,ho⟩:∃ wo,yK (wo=w5):=⟨w5,rfl⟩;go_loopg [68] (x - p) (fun gk tv wr=>∃ j:Nat,p≤j∧j≤x∧yK (wr.heap[r]? =some (.cells #[.int .i64 (j:Int),.int .i64 (t:Int)] 54))∧yK (Below w4.heap.size w4 wr)∧x - j≤gk)
      case atStart=>exact ⟨p,yQ,ix,HX.o,HA.o,yY⟩
      case round=>
       clear HX HA ho;obtain ⟨j,iu,iE,HX,HA,iB⟩:=hrel;obtain ⟨x0,x1,y0,y1⟩:=U2x HX.o;have HR:r < wr.heap.size:=(aN.1 HX.o).1;have hf:=hB.o.trans (HA.o.mono HV);have iD:(0:Int)≤(j:Int):=yY;by_cases hj:j < x
       ·have hS:=hP.o.lead j iu hj;have io:(j:Int) < (S.length:Int):=(by have:=(aM.1 hS).1;omega);obtain ⟨bs,os,hg,he,q3⟩:=X4i hI.o j true _ hS rfl;subst hg;rw [←hf.cell (p:=⟨bs,os+j,none⟩) he] at q3;clear hS hf he;go_wp2_with fail
        have Hr:yK ((wr.setCell ⟨r,0,none⟩ (.int .i64 ((j:Int)+1))).heap[r]? =some (.cells #[.int .i64 ((j+1:Nat):Int),.int .i64 (t:Int)] 54)):=W8 HX.o 0 _;have He:=zW (HA.o.setCell (p:=⟨r,0,none⟩) HN (.int .i64 ((j:Int)+1)));go_roundg (x - (j+1))
        case measure=>omega
        case rel=>exact ⟨j+1,yY,yY,Hr.o,He.o,yY⟩
       ·obtain rfl:j=x:=yY;have hS:=hP.o.atx;have io:(j:Int) < (S.length:Int):=(by have:=(aM.1 hS).1;omega);obtain ⟨bs,os,hg,he,q3⟩:=X4i hI.o j false _ hS rfl;subst hg;rw [←hf.cell (p:=⟨bs,os+j,none⟩) he] at q3;clear hS hf he;go_wp2_with fail
        clear q3 x0 x1 y0 y1 HR;obtain ⟨wo,ho⟩:∃ wo,yK (wo=wr):=⟨wr,rfl⟩;go_loopg [77] (t - y) (fun gk tv wr=>∃ m:Nat,y≤m+1∧m+1≤t∧yK (wr.heap[r]? =some (.cells #[.int .i64 (j:Int),.int .i64 ((m:Int)+1)] 54))∧yK (Below w4.heap.size w4 wr)∧m+1 - y≤gk)
        case atStart=>exact ⟨t - 1,yY,yY,by (show _=_);rw [show ((t - 1:Nat):Int)+1=(t:Int) by omega];exact HX.o,HA.o,yY⟩
        case round=>
         clear HX HA ho;obtain ⟨m,iJ,iG,HX,HA,iC⟩:=hrel;obtain ⟨x0,x1,y0,y1⟩:=U2x HX.o;have HR:r < wr.heap.size:=(aN.1 HX.o).1;have hf:=hB.o.trans (HA.o.mono HV);have iF:(0:Int)≤(m:Int):=yY;by_cases hm:y≤m
         ·have hS:=hP.o.tail m hm yY;have it:(m:Int) < (S.length:Int):=(by have:=(aM.1 hS).1;omega);obtain ⟨bs,os,hg,he,q3⟩:=X4i hI.o m true _ hS rfl;try (injection hg with hg;injection hg with h1 h2 _;subst h1 h2)
          rw [←hf.cell (p:=⟨_,_+m,none⟩) he] at q3;clear hS hf he;go_wp2_with fail
          have Hr : yK ((wr.setCell ⟨r, 1, none⟩ (.int .i64 (m : Int))).heap[r]? = some (.cells #[.int .i64 (j : Int), .int .i64 (((m - 1 : Nat) : Int) + 1)] 54)) := by
                 show _=_;rw [show ((m - 1:Nat):Int)+1=(m:Int) by omega];exact W8 HX.o 1 _
          have He:=zW (HA.o.setCell (p:=⟨r,1,none⟩) HN (.int .i64 (m:Int)));go_roundg (m - y)
          case measure=>omega
          case rel=>exact ⟨m - 1,yY,yY,Hr.o,He.o,yY⟩
         ·obtain rfl:y=m+1:=yY;have hS:=hP.o.aty;rw [fM] at hS;have it:(m:Int) < (S.length:Int):=(by have:=(aM.1 hS).1;omega);obtain ⟨bs,os,hg,he,q3⟩:=X4i hI.o m false _ hS rfl;try (injection hg with hg;injection hg with h1 h2 _;subst h1 h2)
          rw [←hf.cell (p:=⟨_,_+m,none⟩) he] at q3;have ia:=zW (aD (U1 Hl.o HA.o yQ) (.cells (Y9 (j,m+1)).toArray 54));have Hf:=zW hf;have iz:=hf.size;clear hS hf he;go_wp2_with (at_builtin;go_must (refine Z7 rfl (.tmp 85) (.tmp 87) 72 54 rfl underlying72 _ 2 16 Q5u rfl yX w10.heap.size (.slice Ac q.length cc) q.length (q.flatMap Y9) rfl (by exact ia.o) ⟨wr.heap.size,0,none⟩ 1 (Y9 (j,m+1)) rfl rfl (by exact N4 _ _ _) (Z9n _) yY yX yV ?_);intro g8 cap8 w8 hown8 hbg8 hbel8 hgr8)
          have HZ : yK (OwnE 54 Y9 2 w8 w10.heap.size (.slice (some ⟨g8, 0, none⟩) (q.length + 1) cap8) (Q9g (sqF f) 0 (cs.take (k + 1)))) := by
                 show OwnE _ _ _ _ _ _ _;rw [hs.o];exact OwnE.snoc (f:=Y9) hown8
          have HW:=zW (hbel8 _ _ yQ (Hf.o.alloc iz (.cells (Y9 (j,m+1)).toArray 54)));have Hk : yK ((Q9g (sqF f) 0 (cs.take (k + 1))).length = q.length + 1) := by
                 show _=_;rw [hs.o,aA];rfl
          clear hown8 hbel8 hgr8 q3 x0 x1 y0 y1;go_wp2_with fail
          go_roundg (cs.length - (k+1))
          case measure=>omega
          case rel=>exact ⟨k+1,t,_,some ⟨g8,0,none⟩,cap8,by rw [Hk.o],rfl,rfl,yY,Hj.o.symm,rfl,by rw [Hk.o];omega,by (show OwnE _ _ _ _ _ _ _);rw [Hk.o];exact HZ.o,HW.o,yY⟩
     ·have ig:yK (Q9g (sqF f) 0 (cs.take (k+1))=q):=by
       show _=_;rw [hs.o,hE.o ha,aX]
      clear hJ hE;go_wp2_with (first
       | (go_at_call 47;refine Ha.o.mono ?_;rintro e w3 ⟨v3,rfl,hx,hc⟩;obtain ⟨A3,c3,Hv⟩:=Q0 hx;subst Hv;have hd:=zW (HB.o.trans (hc.mono hy));have hZ:=zW (OwnE.rd Q5 hx);have hi:=zW (U1 HO.o hc yQ))
       | (go_at_call 60;refine (hX.o _ _ hZ.o).mono ?_;rintro e w4 ⟨rfl,hw⟩;have hB:=zW (hd.o.trans (hw.mono hd.o.size));have Hl:=zW (U1 hi.o hw yQ))
       | (go_at_call 64;refine (hu.o _).mono ?_;rintro e w5 ⟨x9,y9,hT,rfl,rfl⟩;have HU:¬ x9 < y9:=fun h=>ha ((X3a hT).1 h);have Hw:¬ (x9:Int) < (y9:Int):=yY))
      go_roundg (cs.length - (k+1))
      case measure=>omega
      case rel=>exact ⟨k+1,t,q,Ac,cc,rfl,rfl,rfl,yY,Hj.o.symm,ig.o.symm,yY,Hl.o,hB.o,yY⟩
    ·obtain rfl:k=cs.length:=yY;rw [aW,←Hi.o] at HQ;go_wp2_with fail
     rw [HF.o,←HQ.o];exact ⟨_,rfl,Y3 HO.o hO,hV.o.trans (HB.o.mono hO)⟩
def Y3j:Nat→List (Nat×Nat)→Nat→Prop
 | _,[],_=>True
 | at_,r::rl,n=>at_≤r.1∧r.1≤r.2∧r.2≤n∧Y3j r.2 rl n
theorem X9j {w:World} {A:Option Addr} {n c:Nat} {l:List (Nat×Nat)} (h:RdE Y9 2 w (.slice A n c) l) (k:Nat) (hk:k < l.length):∃ b o,A=some ⟨b,o,none⟩∧b < w.heap.size∧w.cell? ⟨b,o+k * 2,none⟩=some (.int .i64 l[k].1)∧w.cell? ⟨b,o+k * 2+1,none⟩=some (.int .i64 l[k].2):=by
 obtain ⟨b,o,hA,hb,hx⟩:=RdE.cells h yY;exact ⟨b,o,hA,hb,hx k _ 0 _ (aF hk) rfl,hx k _ 1 _ (aF hk) rfl⟩
theorem V6v (rl:List (Nat×Nat)) (n:Nat) (v:Value) (w:World) (h:RdE Y9 2 w v rl) (hl:rl.length≤100000) (hn:n≤1000000) (ha:Y3j 0 rl n):
 Calls prog 66 #[v,.int .i64 n] w (fun e w'=>e=.returned (.bool true)∧Below w.heap.size w w'):=by
 obtain ⟨R,hc⟩:∃ R:Ending→World→Prop,yK (R=fun e w'=>e=.returned (.bool true)∧Below w.heap.size w w'):=⟨_,rfl⟩;rw [←hc.o];obtain ⟨A,c,rfl,_,_⟩:=h.shape;have HF:=zW h;have HA:=zW ha;clear h ha;go_enter func66,ntmps66
 go_wp2_with fail
 go_loopg [5,10] rl.length (fun gk av iv wr=>∃ k a:Nat,av=.int .i64 a∧iv=.int .i64 k∧k≤rl.length∧a≤1000000∧yK (Y3j a (rl.drop k) n)∧yK (Below w.heap.size w wr)∧rl.length - k≤gk)
 case atStart=>exact ⟨0,0,rfl,rfl,aO _,aO _,HA.o,aB _ _,yQ⟩
 case round=>
  obtain ⟨k,a,rfl,rfl,hk,hf,HS,HB,hgk⟩:=hrel;by_cases hlt:k < rl.length
  ·obtain ⟨b,o,rfl,hb,c0,c1⟩:=X9j (HF.o.below HB.o yQ) k hlt;have hs:=HS.o;rw [aQ hlt] at hs;generalize rl[k]=x at *;obtain ⟨x1,x2⟩:=x;obtain ⟨s1,s2,s3,s4⟩:=hs;simp only at c0 c1 s1 s2 s3 s4;have he:=zW s4;have t1:¬ ((x1:Int) < (a:Int)):=yY;have t2:¬ ((x2:Int) < (x1:Int)):=yY;have t3:¬ ((n:Int) < (x2:Int)):=yY;have hd:=zW (HB.o.alloc HB.o.size (.cells #[.int .i64 x1,.int .i64 x2] 54));clear s4;go_wp2_with fail
   go_roundg (rl.length - (k+1))
   case measure=>omega
   case rel=>exact ⟨k+1,x2,rfl,rfl,hlt,yY,he.o,hd.o,yQ⟩
  ·obtain rfl:k=rl.length:=yY;go_wp2_with fail
   first | go_ret | skip
   rw [hc.o];exact ⟨rfl,HB.o⟩
theorem Q3v (a b:List Tk):Q4 (Q4 a++b)=Q4 (X9 a++X9 b):=by rw [Y0s,L1]
theorem L2 (a:List Tk):X3 (Q4 a)=X3 a:=by rw [←D2,L1,D2]
theorem Q7c (a:List Tk):(Q4 a).length≤X3 a:=by
 have:=Q7d (Q4 a) (R3 _ (N1 a));rwa [L2] at this
theorem X4c (a b:List Tk):X3 (a++b)=X3 a+X3 b:=by rw [←D2,L9,aA,D2,D2]
theorem S7 (a:List Tk) (h:X9 a=a):X3 a=a.length:=by rw [←D2,h]
theorem V2p (f:List Tk) (l:List Tk) (h:∀ y∈l,y∈X9 f):X9 l=l:=Q8i l fun y hy=>C8 f y (h y hy)
theorem V4y (u:List Tk) (a:Nat) (tg:List (List Tk)):Q3c u a [] tg=u.drop a:=by cases tg<;>rfl
theorem U1s {u:List Tk} {p q:Nat} {y:Tk} (h:y∈(u.take p).drop q):y∈u:=bY (dW h)
theorem Y5b (f:List Tk) (rl:List (Nat×Nat)) (tg:List (List Tk)) (v vr vt:Value) (w:World) (h1:RdT w v f) (h2:RdE Y9 2 w vr rl) (h3:RdTT w vt tg) (hl:rl.length=tg.length) (hlr:rl.length≤100000) (hfl:f.length≤100000) (hlf:X3 f≤1000000)
 (ha:Y3j 0 rl (X3 f)) (htot:(Q3c (X9 f) 0 rl tg).length≤100000) (htk:∀ t∈tg,Normal t):
 Calls prog 71 #[v,vr,vt] w (N6 31 tkC 3 w (Q4 (Q3c (X9 f) 0 rl tg))):=by
 obtain ⟨R,Hd⟩:∃ R,yK (R=N6 31 tkC 3 w (Q4 (Q3c (X9 f) 0 rl tg))):=⟨_,rfl⟩;rw [←Hd.o];obtain ⟨A,c,rfl,_,_⟩:=h1.shape;obtain ⟨A2,c2,rfl,_,_⟩:=h2.shape;obtain ⟨A3,tc,rfl,He⟩:=h3;have H3:yK (RdTT w (.slice A3 tg.length tc) tg):=⟨A3,tc,rfl,He⟩;have H1:=zW h1;have H2:=zW h2;have HA:=zW ha;have hm:=zW htot;have hE:=zW htk;have Ha:=zW hl;have hL:=zW hlf;have CS:=zW (fun (p q:Nat) (w':World) (h:RdT w' (.slice A f.length c) f) (Hv:p≤q) (hq:q≤X3 f)=>Q9u f _ p q w' h yY yY Hv hq);have CL:=zW (fun (w':World) (h:RdT w' (.slice A f.length c) f)=>Q1f f _ w' h yY yY);clear h1 h2 He ha htot htk hl hlf;go_enter func71,ntmps71
 go_wp2_with fail
 go_loopg [7,8,17] rl.length (fun gk ov av iv wr=>∃ (k a:Nat) (E:List Tk),av=.int .i64 a∧iv=.int .i64 k∧k≤rl.length∧a≤X3 f∧yK (Y3j a (rl.drop k) (X3 f))∧yK (X9 E=E)∧yK (E++Q3c (X9 f) a (rl.drop k) (tg.drop k)=Q3c (X9 f) 0 rl tg)∧yK (OwnT 31 wr w.heap.size ov (Q4 E))∧yK (Below w.heap.size w wr)∧rl.length - k≤gk)
 case atStart=>exact ⟨0,0,[],rfl,rfl,aO _,aO _,HA.o,rfl,rfl,OwnE.nil,aB _ _,yQ⟩
 case round=>
  obtain ⟨k,a,E,rfl,rfl,hk,Hg,HS,hD,HE,HO,HB,hgk⟩:=hrel;have Hn:E.length≤100000:=by
   have:=congrArg List.length HE.o;rw [aA] at this;have:=hm.o;omega
  have Hj:X3 E=E.length:=S7 E hD.o;obtain ⟨Ao,co,rfl⟩:=Q0 HO.o;have Hc:=zW (OwnE.rd Q5 HO.o);have Hk:=Q7c E;by_cases hlt:k < rl.length
  ·obtain ⟨b,o,rfl,hb,c0,c1⟩:=X9j (H2.o.below HB.o yQ) k hlt;have hn:k < tg.length:=(by rw [←Ha.o];exact hlt);obtain ⟨tb,tof,At,ct,Ht,hB,t00,hA⟩:=RdTT.at_ H3.o k hn;subst Ht;have hs:=HS.o;have he:=HE.o;rw [aQ hlt] at hs he;rw [aQ hn,Q3c] at he;have hC:=hE.o _ (aL hn);generalize rl[k]=x at *;generalize tg[k]=tk at *;obtain ⟨x1,x2⟩:=x;obtain ⟨s1,s2,s3,s4⟩:=hs;simp only at c0 c1 s1 s2 s3 s4 he;have Hs:=zW s4;have Hy:x1≤X3 f:=aP s2 s3;have Hz:(x1:Int)≤1000000:=(by have:=hL.o;omega);have HC:(x2:Int)≤1000000:=(by have:=hL.o;omega);obtain ⟨pc,hr⟩:∃ pc,yK (slI f 0 a x1=pc):=⟨_,rfl⟩;have ht:X9 pc=((X9 f).take x1).drop a:=(by rw [←hr.o,X1k,dH,dH]);have hV:pc.length≤X3 pc:=(by rw [←hr.o];exact Q7d _ (Z3i a x1 f 0));have hU:X3 pc=(((X9 f).take x1).drop a).length:=(by rw [←D2,ht]);have hz:=congrArg List.length he;simp only [aA] at hz;have hX:=hm.o;have Hx:X3 tk=(X9 tk).length:=(D2 tk).symm;have hY:=Q7d tk (R3 _ hC);obtain ⟨E1,hw⟩:∃ E1,yK (E1=E++((X9 f).take x1).drop a):=⟨_,rfl⟩;obtain ⟨E2,hF⟩:∃ E2,yK (E2=E1++X9 tk):=⟨_,rfl⟩;have hf:X9 E1=E1:=(by rw [hw.o,L9,hD.o,V2p f _ fun y hy=>U1s hy]);have hK:yK (X9 E2=E2):=(by show _=_;rw [hF.o,L9,hf,Q8i (X9 tk) (C8 tk)]);have hx:Q4 (Q4 E++pc)=Q4 E1:=(by rw [Q3v,hD.o,ht,hw.o]);have Hf:Q4 (Q4 E1++tk)=Q4 E2:=(by rw [Q3v,hf,hF.o]);have Hu:X3 E1=E.length+(((X9 f).take x1).drop a).length:=(by rw [S7 E1 hf,hw.o,aA]);have hS:=Q7c E1;have Hq:yK (E2++Q3c (X9 f) x2 (rl.drop (k+1)) (tg.drop (k+1))=Q3c (X9 f) 0 rl tg):=by
    show _=_;rw [←he,hF.o,hw.o];simp
   have hi:=zW (fun (W:World) (ha:RdT W (.slice Ao (Q4 E).length co) (Q4 E)) (Ap:Option Addr) (cp:Nat) (hb:RdT W (.slice Ap pc.length cp) pc)=>Q9q (Q4 E) pc Ao Ap co cp W ha hb yY (by rw [X4c,L2];omega));have hJ:=zW (fun (A5:Option Addr) (c5:Nat) (W:World) (ha:RdT W (.slice A5 (Q4 E1).length c5) (Q4 E1)) (hb:RdT W (.slice At tk.length ct) tk)=>Q9q (Q4 E1) tk A5 At c5 ct W ha hb yY (by rw [X4c,L2];omega));rw [hx] at hi;rw [Hf] at hJ;have hI:=zW (HB.o.alloc HB.o.size (.cells #[.int .i64 x1,.int .i64 x2] 54));have HD:(k:Int) < (tg.length:Int):=yY;have CS1:=zW (fun (w':World) (h:RdT w' (.slice A f.length c) f)=>CS.o a x1 w' h s1 Hy);rw [hr.o] at CS1;have Hl:=zW (fun (W:World) (hW:Below w.heap.size w W)=>(hW.cell (p:=⟨tb,tof+k,none⟩) hB).trans t00);have Hh:=(aB wr.heap.size wr).alloc yQ (.cells #[.int .i64 x1,.int .i64 x2] 54);have hP:=zW (RdE.below Hc.o Hh yQ);have hv:=zW (fun (W:World) (hW:Below w.heap.size w W)=>RdE.below hA hW yQ);clear he s4 ht hV hU hz hX Hx hY hf hx Hf Hu hS hC t00 hA hw hF Hk Hj Hn Hh;go_wp2_with (go_at_call 47;refine (CS1.o _ (by exact RdE.below H1.o hI.o yQ)).mono ?_;rintro e w1 ⟨vp,rfl,hp,hd⟩;obtain ⟨Ap,cp,rfl⟩:=Q0 hp;have hN:=zW (OwnE.rd Q5 hp);have Hp:=zW (hI.o.trans (hd.mono hI.o.size));have hj:=zW (RdE.below hP.o hd yQ);have r0:w1.cell? ⟨wr.heap.size,0,none⟩=some (.int .i64 x1):=(hd.cell yW).trans yU;have r1:w1.cell? ⟨wr.heap.size,1,none⟩=some (.int .i64 x2):=(hd.cell yW).trans yU;have Hw:wr.heap.size < w1.heap.size:=bC yW hd.size;clear hp hd)
   refine zqR (l0:=#[false,false,false,false,false,false,false,false,false]) 9 rfl ?_;have hh:yK (Below w.heap.size w w1.drew):=Hp.o.drew;have hu:=zW (hi.o w1.drew hj.o Ap cp hN.o);have hE:=zW (hv.o w1.drew hh.o);have t0:=Hl.o w1.drew hh.o;have Hm:tb < w1.drew.heap.size:=bC hB hh.o.size;have R0:yK (∀ W,Below w1.drew.heap.size w1.drew W→W.cell? ⟨wr.heap.size,1,none⟩=some (.int .i64 x2)):=fun W hW=>(hW.cell (p:=⟨wr.heap.size,1,none⟩) Hw).trans r1;clear hi Hl hv;generalize w1.drew=W0 at *;refine zqM 0 30 (.slice Ao (Q4 E).length co) rfl ?_;refine zqM 1 31 (.slice Ap pc.length cp) rfl ?_;refine zqM 3 33 (.slice (some ⟨tb,tof,none⟩) tg.length tc) rfl ?_;refine zqM 4 34 (.int .i64 (k:Int)) rfl ?_;refine zqI 5 35 (.pointer (some ⟨tb,tof+k,none⟩)) rfl rfl (.slice (some ⟨tb,tof,none⟩) tg.length tc) (.int .i64 (k:Int)) ?_;simp only [Act.put,zZ,zY,zX];refine zqt 2 6 rfl rfl ?_ ?_;refine Q0s (.slice Ao (Q4 E).length co) (.slice Ap pc.length cp) rfl func113 (hu.o) ?_;rintro e W1 ⟨v,rfl,ho,hb⟩;obtain ⟨A5,c5,rfl⟩:=Q0 ho;have hM:=zW (OwnE.rd Q5 ho);have hg:=zW (hh.o.trans (hb.mono hh.o.size));have hQ:=zW (RdE.below hE.o hb yQ);have t1:=(hb.cell (p:=⟨tb,tof+k,none⟩) Hm).trans t0;have hc:=zW hb;clear ho hb;refine ⟨.slice A5 (Q4 E1).length c5,rfl,?_⟩;simp only [Act.put,zZ,zY,zX];refine zqo 6 rfl ?_;refine zqL (.slice At tk.length ct) rfl (.pointer (some ⟨tb,tof+k,none⟩)) (Q2f t1) ?_;simp only [Act.put,zZ,zY,zX];refine zqo 7 rfl ?_;refine Q0s (.slice A5 (Q4 E1).length c5) (.slice At tk.length ct) rfl func113 (hJ.o A5 c5 W1 hM.o hQ.o) ?_;rintro e W2 ⟨v,rfl,ho,hb⟩;obtain ⟨A6,c6,rfl⟩:=Q0 ho;have Hb:=zW (Y3 ho hg.o.size);have hZ:=zW (hg.o.trans (hb.mono hg.o.size));have y1:=R0.o W2 (hc.o.trans (hb.mono hc.o.size));clear ho hb;refine ⟨.slice A6 (Q4 E2).length c6,rfl,?_⟩;refine zqG 8 7 (.slice A6 (Q4 E2).length c6) rfl ?_;refine bW yZ ?_ _;simp only [Act.put,zZ,zY,zX];rotate_left 1
   refine zqL (.slice At tk.length ct) rfl (.pointer (some ⟨tb,tof+k,none⟩)) (Q2f t0) ?_;simp only [Act.put,zZ,zY,zX];refine zqo 2 rfl ?_;refine Q0s (.slice Ao (Q4 E).length co) (.slice Ap pc.length cp) rfl func113 (hu.o) ?_;rintro e W1 ⟨v,rfl,ho,hb⟩;obtain ⟨A5,c5,rfl⟩:=Q0 ho;have hM:=zW (OwnE.rd Q5 ho);have hg:=zW (hh.o.trans (hb.mono hh.o.size));have hQ:=zW (RdE.below hE.o hb yQ);have t1:=(hb.cell (p:=⟨tb,tof+k,none⟩) Hm).trans t0;have hc:=zW hb;clear ho hb;refine ⟨.slice A5 (Q4 E1).length c5,rfl,?_⟩;simp only [Act.put,zZ,zY,zX];refine zqo 7 rfl ?_;refine Q0s (.slice A5 (Q4 E1).length c5) (.slice At tk.length ct) rfl func113 (hJ.o A5 c5 W1 hM.o hQ.o) ?_;rintro e W2 ⟨v,rfl,ho,hb⟩;obtain ⟨A6,c6,rfl⟩:=Q0 ho;have Hb:=zW (Y3 ho hg.o.size);have hZ:=zW (hg.o.trans (hb.mono hg.o.size));have y1:=R0.o W2 (hc.o.trans (hb.mono hc.o.size));clear ho hb;refine ⟨.slice A6 (Q4 E2).length c6,rfl,?_⟩;refine zqG 8 7 (.slice A6 (Q4 E2).length c6) rfl ?_;refine bW yZ ?_ _;simp only [Act.put,zZ,zY,zX];all_goals (
    go_wp2_with fail
    go_roundg (rl.length - (k+1))
    case measure=>omega
    case rel=>exact ⟨k+1,x2,E2,rfl,rfl,hlt,s3,Hs.o,hK.o,Hq.o,Hb.o,hZ.o,yQ⟩)
  ·obtain rfl:k=rl.length:=yY;have he:=HE.o;rw [eF,show tg.drop rl.length=[] by rw [Ha.o,eF],V4y] at he;obtain ⟨pc,hr⟩:∃ pc,yK (slI f 0 a (X3 f)=pc):=⟨_,rfl⟩;have ht:X9 pc=(X9 f).drop a:=(by rw [←hr.o,X1k,dH,dH,bP (by rw [D2];exact yQ)]);have hV:pc.length≤X3 pc:=(by rw [←hr.o];exact Q7d _ (Z3i a (X3 f) f 0));have hU:X3 pc=((X9 f).drop a).length:=(by rw [←D2,ht]);have hz:=congrArg List.length he;rw [aA] at hz;have hX:=hm.o;have hx:Q4 (Q4 E++pc)=Q4 (Q3c (X9 f) 0 rl tg):=(by rw [Q3v,hD.o,ht,he]);have hu:=zW (fun (W:World) (ha:RdT W (.slice Ao (Q4 E).length co) (Q4 E)) (Ap:Option Addr) (cp:Nat) (hb:RdT W (.slice Ap pc.length cp) pc)=>Q9q (Q4 E) pc Ao Ap co cp W ha hb yY (by rw [X4c,L2];omega));rw [hx] at hu;have CS1:=zW (fun (w':World) (h:RdT w' (.slice A f.length c) f)=>CS.o a (X3 f) w' h Hg yQ);rw [hr.o] at CS1;clear he ht hV hU hz hX hx Hk Hj Hn;generalize X3 f=lf at CL CS1 Hg hL ⊢;go_wp2_with (first
    | (go_at_call 62;refine (CL.o _ (by exact RdE.below H1.o HB.o yQ)).mono ?_;rintro e w1 ⟨rfl,hR⟩;have hG:=zW (HB.o.trans (hR.mono HB.o.size));have hj:=zW (RdE.below Hc.o hR yQ);clear hR)
    | (go_at_call 47;refine (CS1.o _ (by exact RdE.below H1.o hG.o yQ)).mono ?_;rintro e w2 ⟨vp,rfl,hp,hd⟩;obtain ⟨Ap,cp,rfl⟩:=Q0 hp;have hN:=zW (OwnE.rd Q5 hp);have hH:=zW (hG.o.trans (hd.mono hG.o.size));have hO:=zW (RdE.below hj.o hd yQ);clear hp hd)
    | (go_at_call 113;refine (hu.o _ (by exact hO.o) Ap cp (by exact hN.o)).mono ?_;rintro e w3 ⟨v3,rfl,hT,Hi⟩;obtain ⟨A9,c9,rfl⟩:=Q0 hT;have Hr:=zW (Y3 hT hH.o.size);have Ho:=zW (hH.o.trans (Hi.mono hH.o.size));clear hT Hi))
   first | go_ret | skip
   rw [Hd.o];exact ⟨_,rfl,Hr.o,Ho.o⟩
theorem Y9j {fn:Func} {p u:Tmp} (h:fn.results=#[.cell p 41,.tmp u]) (tmps:Array Value) (w:World) (g:Nat) (k:Int) (A:Option Addr) (n c:Nat) (x:Value) (hp:tmps.getD p undef=.pointer (some ⟨g,0,none⟩)) (hu:tmps.getD u undef=x)
 (c0:w.cell? ⟨g,0,none⟩=some (.int .i64 k)) (c1:w.cell? ⟨g,1,none⟩=some (.slice A n c)):
 (results fn tmps).run prog w=.ok (.tuple #[.agg #[.int .i64 k,.slice A n c],x]) w:=by
 rw [results_cell_tmp h,hp,hu];go_simp
theorem Z9i {w:World} {B:Nat} {e:TypeId} {size n c:Nat} {A:Option Addr} {xs:List Value} {m:Nat} (h:w.ownsRow B e size (.slice A m c) n xs) (hn:0 < n):∃ bk,A=some ⟨bk,0,none⟩∧B≤bk:=by
 rcases h.2 with ⟨_,h0⟩ | ⟨g',cap,cur,hv,hbg,_⟩
 ·omega
 ·injection hv with hv;exact ⟨g',hv,hbg⟩
theorem Y7j:∀ (ps:List Pt) (k:Nat) (hk:k < ps.length) (nb:fY),(ps[k]).un=true→(ps.flatMap ptC).set (k * 3+2) (.string nb)=(ps.set k ⟨true,ps[k].key,nb⟩).flatMap ptC
 | [],k,hk,_,_=>by simp at hk
 | p::ps,0,hk,nb,hu=>by
   simp only [List.getElem_cons_zero] at hu;simp [ptC,hu]
 | p::ps,k+1,hk,nb,hu=>by
   have ih:=Y7j ps k (by simpa using hk) nb (by simpa using hu);rw [List.set_cons_succ,dM,dM,List.getElem_cons_succ,←ih];show ([Value.bool p.un,Value.string p.key,Value.string p.raw]++ps.flatMap ptC).set ((k+1) * 3+2) _=[Value.bool p.un,Value.string p.key,Value.string p.raw]++_;rw [show (k+1) * 3+2=k * 3+2+1+1+1 by omega];rfl
theorem V5r (ts:Els) (p:Nat) (tg:List Els):G6 ts p [] tg=U7 ts p:=by cases tg<;>rfl
theorem X2w (ts:Els) (p q:Nat) (h:p≤q):(Q2 (Z5 ts p)).length≤(Q2 (Z5 ts q)).length:=by
 obtain ⟨d,rfl⟩:∃ d,q=p+d:=⟨q - p,yY⟩;rw [Q1q,F9,aA];omega
theorem Q9m (ts:Els) (p:Nat):(Q2 (Z5 ts p)).length≤(Q2 ts).length:=by
 rw [F4 ts p,aA];omega
theorem Y2o {w:World} {A:Option Addr} {n c:Nat} {l:List Int} (h:RdE V7 1 w (.slice A n c) l) (k:Nat) {v:Int} (hk:l[k]? =some v):∃ b o,A=some ⟨b,o,none⟩∧w.cell? ⟨b,o+k,none⟩=some (.int .i64 v):=by
 obtain ⟨hl,hv⟩:=aM.1 hk;obtain ⟨b,o,hA,_,hc⟩:=Q3a h k hl;exact ⟨b,o,hA,by rw [hc,hv]⟩
theorem Z2s {w:World} {b o n c:Nat} {l:List Int} (h:RdE V7 1 w (.slice (some ⟨b,o,none⟩) n c) l) (k:Nat) {v:Int} (hk:l[k]? =some v):w.cell? ⟨b,o+k,none⟩=some (.int .i64 v):=by
 obtain ⟨b',o',hA,hc⟩:=Y2o h k hk;injection hA with hA;injection hA with e1 e2 _;rw [e1,e2];exact hc
structure RplOk (m fmt:Int) (ps:List Pt) (k:Nat) (ts:Els) (cs:List Int) (rl:List (Nat×Nat)) (tg:List (List Tk)) (n:Nat):Prop where
 fm:D1 fmt
 len:ps.length≤100000
 size:(Y0 ps).length≤1000000
 spl:Y0x m fmt (ofL (Y0 ps)) ps
 kl:k < ps.length
 un:(ps[k]'kl).un=true
 raw:(ps[k]'kl).raw=ofL (Q2 ts)
 rsz:(Q2 ts).length≤1000000
 dec:Y0w m fmt (ofL (Q2 ts)) (Q4 (X0 ts))
 one:X9 (X0 ts)=X0 ts
 pos:(X0 ts).length≤500
 cut:U0j m fmt (ofL (Q2 ts)) cs
 csl:cs.length=(X0 ts).length+1
 cat:∀ p,p≤(X0 ts).length→cs[p]? =some ((Q2 (Z5 ts p)).length:Int)
 rtl:rl.length=tg.length
 rll:rl.length≤100000
 asc:Y3j 0 rl (X0 ts).length
 tgn:∀ t∈tg,Normal t
 enc:∀ t∈tg,U0k m fmt t (ofL (V3 fmt t))
 new:Y0w m fmt (ofL (Q2 (G6 ts 0 rl (tg.map (tsF fmt))))) (Q4 (X0 (G6 ts 0 rl (tg.map (tsF fmt)))))
 none_:X9 (X0 (G6 ts 0 rl (tg.map (tsF fmt))))=X0 (G6 ts 0 rl (tg.map (tsF fmt)))
 npos:(X0 (G6 ts 0 rl (tg.map (tsF fmt)))).length≤500
 nrsz:(Q2 (G6 ts 0 rl (tg.map (tsF fmt)))).length≤1000000
 num:numsG (Q4 (X0 (G6 ts 0 rl (tg.map (tsF fmt))))) []=Q1v n
 nle:n≤100000
 knd:∀ x∈Q4 (X0 (G6 ts 0 rl (tg.map (tsF fmt)))),KindT n x
 nsz:(Y0 (ps.set k ⟨true,(ps[k]'kl).key,ofL (Q2 (G6 ts 0 rl (tg.map (tsF fmt))))⟩)).length≤65536
theorem X5m {m fmt:Int} {ps:List Pt} {k:Nat} {ts:Els} {cs:List Int} {rl:List (Nat×Nat)} {tg:List (List Tk)} {n:Nat} (h:RplOk m fmt ps k ts cs rl tg n) (A A2 A3:Option Addr) (c c2 c3:Nat) (w:World) (hm:w.cell? ⟨0,0,none⟩=some (.int .i64 m)) (h1:RdE ptC 3 w (.slice A ps.length c) ps) (h2:RdE Y9 2 w (.slice A2 rl.length c2) rl) (h3:RdTT w (.slice A3 tg.length c3) tg):
 Calls prog 32 #[.agg #[.int .i64 fmt,.slice A ps.length c],.int .i64 k,.slice A2 rl.length c2,.slice A3 tg.length c3] w (fun e w'=>∃ A' c',e=.returned (.tuple #[.agg #[.int .i64 fmt,.slice A' ps.length c'],.int .i64 0])∧OwnE 52 ptC 3 w' w.heap.size (.slice A' ps.length c') (ps.set k ⟨true,(ps[k]'h.kl).key,ofL (Q2 (G6 ts 0 rl (tg.map (tsF fmt))))⟩)∧Below w.heap.size w w'):=by
 obtain ⟨R,ie⟩:∃ R:Ending→World→Prop,yK (R=fun e w'=>∃ A' c',e=.returned (.tuple #[.agg #[.int .i64 fmt,.slice A' ps.length c'],.int .i64 0])∧OwnE 52 ptC 3 w' w.heap.size (.slice A' ps.length c') (ps.set k ⟨true,(ps[k]'h.kl).key,ofL (Q2 (G6 ts 0 rl (tg.map (tsF fmt))))⟩)∧Below w.heap.size w w'):=⟨_,rfl⟩;rw [←ie.o]
 -- WALK
 have hE:rl.length=tg.length:=h.rtl;have hn:=zW hE;rw [hE] at h2 ⊢;clear hE;obtain ⟨f,hf⟩:∃ f,yK (Q4 (X0 ts)=f):=⟨_,rfl⟩;obtain ⟨raw,hg⟩:∃ raw,yK (ofL (Q2 ts)=raw):=⟨_,rfl⟩;obtain ⟨NEW,hh⟩:∃ NEW,yK (Q2 (G6 ts 0 rl (tg.map (tsF fmt)))=NEW):=⟨_,rfl⟩;have Hd:X3 f=(X0 ts).length:=(by rw [←hf.o,L2,S7 _ h.one]);have jb:f.length≤500:=by
  have:=Q7c (X0 ts);rw [hf.o,S7 _ h.one] at this;have:=h.pos;omega
 have Hs:X9 f=X0 ts:=(by rw [←hf.o,L1,h.one]);have hM:yK (Q4 (Q3c (X9 f) 0 rl tg)=Q4 (X0 (G6 ts 0 rl (tg.map (tsF fmt))))):=(by show _=_;rw [Hs,Q8j]);have HH:=zW h;have HM:=zW hm;have HP:=zW h1;have ic:=zW h2;have ih:=zW h3;have Hz:raw.size=(Q2 ts).length:=(by rw [←hg.o,Q6]);have iW:raw.size≤1000000:=(by rw [Hz];exact h.rsz);have CV:=zW (fun (W:World) (hW:Below w.heap.size w W)=>Z1f m fmt h.fm ps h.spl A c W (X8 hm hW) (RdE.below h1 hW yQ) h.len h.size);have CC:=zW (fun (W:World) (hW:Below w.heap.size w W)=>Q6o m fmt h.fm ps f k h.kl h.un (by rw [h.raw,←hf.o];exact h.dec) A c W (X8 hm hW) (RdE.below h1 hW yQ) h.len);have CL:=zW (fun (v:Value) (W:World) (hr:RdT W v f)=>Q1f f v W hr (by have:=h.pos;omega) yY);have CA:=zW (fun (W:World) (hW:Below w.heap.size w W)=>V6v rl (X3 f) _ W (RdE.below h2 hW yQ) h.rll (by have:=h.pos;omega) (by rw [Hd];exact h.asc));have CCU:=zW (fun (W:World) (hW:Below w.heap.size w W)=>V1v fmt h.fm raw cs W (by rw [←hg.o];exact h.cut W (X8 hm hW)));have Hc:=h.kl;have je:=h.len;have iV:tg.length≤100000:=(by rw [←hn.o];exact h.rll);obtain ⟨b,o,rfl,hb,p0,p1,p2⟩:=RdP.at_ h1 k h.kl;have iB:yK (w.cell? ⟨b,o+k * 3+2,none⟩=some (.string raw)):=(by show _=_;rw [p2,h.raw,hg.o]);have hq:yK (Below w.heap.size w (((w.alloc (.cells #[.int .i64 fmt,.slice (some ⟨b,o,none⟩) ps.length c] 41)).alloc (.cells #[.int .i64 0,.slice none 0 0] 41)).alloc (.cells #[.int .i64 0,.slice none 0 0] 41))):=zW ((((aB w.heap.size w).alloc yQ _).alloc yW _).alloc yV _);have hw:yK ((((w.alloc (.cells #[.int .i64 fmt,.slice (some ⟨b,o,none⟩) ps.length c] 41)).alloc (.cells #[.int .i64 0,.slice none 0 0] 41)).alloc (.cells #[.int .i64 0,.slice none 0 0] 41)).heap[w.heap.size]? =some (.cells #[.int .i64 fmt,.slice (some ⟨b,o,none⟩) ps.length c] 41)):=by
  show _=_;rw [bE _ _ _ yV,bE _ _ _ yW];exact aT w _
 have hG:yK ((((w.alloc (.cells #[.int .i64 fmt,.slice (some ⟨b,o,none⟩) ps.length c] 41)).alloc (.cells #[.int .i64 0,.slice none 0 0] 41)).alloc (.cells #[.int .i64 0,.slice none 0 0] 41)).heap[w.heap.size+1]? =some (.cells #[.int .i64 0,.slice none 0 0] 41)):=by
  show _=_;rw [bE _ _ _ yW];have:=aT (w.alloc (.cells #[.int .i64 fmt,.slice (some ⟨b,o,none⟩) ps.length c] 41)) (.cells #[.int .i64 0,.slice none 0 0] 41);simpa using this
 have Hb:=zW Hd;have ig:=zW Hz;have Ht:=zW Hs;have Hv:X3 f≤500:=(by rw [Hd];exact h.pos);clear h1 h2 h3 hm p0 p1 p2 Hs hf Hd Hz;obtain ⟨lf,hz⟩:∃ lf,yK (X3 f=lf):=⟨_,rfl⟩;rw [hz.o] at CL CA Hb Hv;go_enter func32,ntmps32
 go_upto_region 2 with fail
 generalize ((w.alloc (.cells #[.int .i64 fmt,.slice (some ⟨b,o,none⟩) ps.length c] 41)).alloc (.cells #[.int .i64 0,.slice none 0 0] 41)).alloc (.cells #[.int .i64 0,.slice none 0 0] 41)=W0 at hq hw hG ⊢;obtain ⟨g,Hu⟩:∃ g,yK (w.heap.size=g):=⟨_,rfl⟩;rw [Hu.o] at hw hG;rw [Hu.o];have ip:w.heap.size≤g:=fP Hu.o;obtain ⟨x0,x1,_⟩:=bx2 hw.o;go_upto_region 11 with (first
  | (go_at_call 65;refine (CV.o _ (by exact hq.o)).mono ?_;rintro e W1 ⟨rfl,hk⟩;have hl:=zW (hq.o.trans (hk.mono hq.o.size));have hF:=zW (Q9 hw.o hk);have hP:=zW (Q9 hG.o hk);obtain ⟨y0,y1,_⟩:=bx2 hF.o;clear hk)
  | (go_at_call 27;refine (CC.o _ (by exact hl.o)).mono ?_;rintro e W2 ⟨vf,rfl,hD,hc⟩;obtain ⟨Af,cf,rfl⟩:=Q0 hD;have ht:=zW (hl.o.trans (hc.mono hl.o.size));have hN:=zW (Q9 hF.o hc);have hQ:=zW (Q9 hP.o hc);have Hh:=zW (OwnE.rd Q5 hD);clear hD hc)
  | (go_at_call 62;refine (CL.o _ _ (by exact Hh.o)).mono ?_;rintro e W3 ⟨rfl,hd⟩;have hu:=zW (ht.o.trans (hd.mono ht.o.size));have hO:=zW (Q9 hN.o hd);have hR:=zW (Q9 hQ.o hd);have HL:=zW (RdE.below Hh.o hd yQ);clear hd)
  | (go_at_call 66;refine (CA.o _ (by exact hu.o)).mono ?_;rintro e W4 ⟨rfl,hT⟩;have hK:=zW (hu.o.trans (hT.mono hu.o.size));have Hl:=zW (Q9 hO.o hT);have ij:=zW (Q9 hR.o hT);have HN:=zW (RdE.below HL.o hT yQ);obtain ⟨z0,z1,_⟩:=bx2 Hl.o;have z2:=(hK.o.cell (p:=⟨b,o+k * 3+2,none⟩) hb).trans iB.o;clear hT))
 go_upto_region 16 with (go_at_call 67;refine (CCU.o _ (by exact hK.o)).mono ?_;rintro e W5 ⟨vc,rfl,Hy,hU⟩;obtain ⟨Ac,cc,rfl⟩:=Q0 Hy;have HA:=zW (hK.o.trans (hU.mono hK.o.size));have ii:=zW (Q9 Hl.o hU);have ik:=zW (Q9 ij.o hU);have HQ:=zW (RdE.below HN.o hU yQ);have HI:=zW (OwnE.rd K6 Hy);clear Hy hU)
 have im:((Q2 (Z5 ts 0)).length:Int)=0:=by cases ts<;>rfl
 go_loopg [16,17,73] tg.length (fun gk sv av iv wr=>∃ (i p:Nat) (sb:fY),sv=.string sb∧av=.int .i64 ((Q2 (Z5 ts p)).length:Nat)∧iv=.int .i64 i∧i≤tg.length∧p≤lf∧yK (Y3j p (rl.drop i) lf)∧yK (sb.data.toList++Q2 (G6 ts p (rl.drop i) ((tg.drop i).map (tsF fmt)))=NEW)∧yK (Below w.heap.size w wr)∧yK (wr.heap[g]? =some (.cells #[.int .i64 fmt,.slice (some ⟨b,o,none⟩) ps.length c] 41))∧yK (wr.heap[g+1]? =some (.cells #[.int .i64 0,.slice none 0 0] 41))∧yK (RdT wr (.slice Af f.length cf) f)∧yK (RdE V7 1 wr (.slice Ac cs.length cc) cs)∧tg.length - i≤gk)
 case atStart=>exact ⟨0,0,⟨#[]⟩,rfl,by rw [im],rfl,aO _,aO _,by rw [Hb.o];exact HH.o.asc,hh.o,HA.o,ii.o,ik.o,HQ.o,HI.o,yQ⟩
 case round=>
  obtain ⟨i,p,sb,rfl,rfl,rfl,hi,jd,HS,HE,HB,HX,HY,HF,HC,hgk⟩:=hrel;clear im HA ii ik HQ HI hK Hl ij HN hu hO hR HL ht hN hQ Hh hl hF hP hq hw hG CV CC CL CA CCU x0 x1 y0 y1 z0 z1 z2;have ja:NEW.length≤1000000:=(by rw [←hh.o];exact HH.o.nrsz);by_cases hlt:i < tg.length
  ·have ir:i < rl.length:=(by rw [hn.o];exact hlt);obtain ⟨b2,o2,iG,hc,c0,c1⟩:=X9j ic.o i ir;obtain ⟨b3,o3,At,ct,iH,hd,t00,hZ⟩:=RdTT.at_ ih.o i hlt;subst iG;subst iH;have hs:=HS.o;have he:=HE.o;rw [aQ ir] at hs he;rw [aQ hlt,cA,G6] at he;have hY:=aL hlt;have hV:=HH.o.enc _ hY;generalize rl[i]=x at *;generalize tg[i]=tk at *;obtain ⟨x1,x2⟩:=x;obtain ⟨s1,s2,s3,s4⟩:=hs;simp only at c0 c1 s1 s2 s3 s4 he;have iC:=zW s4;rw [F9,F9,X6j] at he;have CE:=zW (fun (W:World) (hW:Below w.heap.size w W)=>V7q fmt HH.o.fm At tk.length ct (ofL (V3 fmt tk)) W (hV At ct W (X8 HM.o hW) (RdE.below hZ hW yQ)));obtain ⟨e1,Hp⟩:∃ e1:fY,yK (ofL (Q2 (Z5 (U7 ts p) (x1 - p)))=e1):=⟨_,rfl⟩;obtain ⟨e2,Hq⟩:∃ e2:fY,yK (ofL (V3 fmt tk)=e2):=⟨_,rfl⟩;rw [Hq.o] at CE;have hS:=congrArg List.length he;simp only [aA] at hS;have z1:e1.size=(Q2 (Z5 (U7 ts p) (x1 - p))).length:=(by rw [←Hp.o,Q6]);have z2:e2.size=(V3 fmt tk).length:=(by rw [←Hq.o,Q6]);have z3:sb.size=sb.data.toList.length:=aC sb;have iY:e1.size≤1000000:=yY;have jf:e2.size≤1000000:=yY;have iZ:sb.size≤1000000:=yY;have jc:=X2w ts p x1 s1;have iS:=X2w ts x1 x2 s2;have iT:=Q9m ts x2;have iw:x2≤(X0 ts).length:=(by rw [←Hb.o];exact s3);have iO:=HH.o.cat x1 (aP s2 iw);have iq:=HH.o.cat x2 iw;have iL:raw.extract (Q2 (Z5 ts p)).length (Q2 (Z5 ts x1)).length=e1:=by
    rw [←Hp.o,←hg.o];refine E7 _ _ _ _ ?_;rw [show (ofL (Q2 ts)).data.toList=Q2 ts by simp [ofL],V9h ts p x1 s1];simp [ofL]
   have iz:yK ((sb++(e1++e2)).data.toList++Q2 (G6 ts x2 (rl.drop (i+1)) ((tg.drop (i+1)).map (tsF fmt)))=NEW):=by
    show _=_;rw [←he,←Hp.o,←Hq.o];simp [ofL]
   have iU:(Q2 (Z5 ts x1)).length≤raw.size:=(by rw [ig.o];omega);have iP:(i:Int) < (tg.length:Int):=yY;have iQ:x1 < cs.length:=(by rw [HH.o.csl];omega);have iR:x2 < cs.length:=(by rw [HH.o.csl];omega);have hH:=(aB wr.heap.size wr).alloc yQ (.cells #[.int .i64 x1,.int .i64 x2] 54);have hL:=zW (HB.o.trans (hH.mono HB.o.size));have Hm:=zW (Q9 HX.o hH);have il:=zW (Q9 HY.o hH);have HR:=zW (RdE.below HF.o hH yQ);have HJ:=zW (RdE.below HC.o hH yQ);have Hk:yK ((wr.alloc (.cells #[.int .i64 x1,.int .i64 x2] 54)).heap[wr.heap.size]? =some (.cells #[.int .i64 x1,.int .i64 x2] 54)):=aT wr _;have r0:=(HB.o.cell (p:=⟨b2,o2+i * 2,none⟩) hc).trans c0;have r1:=(HB.o.cell (p:=⟨b2,o2+i * 2+1,none⟩) hc).trans c1;clear he hS z1 z2 z3 hH s4 hY hV hZ c0 c1 HS HE HX HY HF HC;go_upto_region 18 with fail
   generalize wr.heap.size=gr at Hk ⊢;generalize wr.alloc (.cells #[.int .i64 x1,.int .i64 x2] 54)=wa at hL Hm il HR HJ Hk ⊢;obtain ⟨x0,x1',_⟩:=bx2 Hm.o;have t0:=(hL.o.cell (p:=⟨b3,o3+i,none⟩) hd).trans t00;clear r0 r1 HB;generalize (Q2 (Z5 ts p)).length=a0 at *;generalize (Q2 (Z5 ts x1)).length=a1 at *;obtain ⟨a2,io⟩:∃ a2,yK ((Q2 (Z5 ts x2)).length=a2):=⟨_,rfl⟩;rw [io.o] at iq iS iT;go_region_with (go_at_call 68;refine (CE.o _ ?hbx).mono ?_;(case hbx=>(repeat' (first | exact hL.o | refine Q1 ?_ _ | refine eC ?_)));rintro e W6 ⟨rfl,hI⟩;have hx:Below wa.heap.size wa W6:=⟨hI.os,hI.tape,hI.output,hI.size,hI.block⟩;have ix:=zW (hL.o.trans (hx.mono hL.o.size));have iD:=zW (Q9 Hm.o hx);have iE:=zW (Q9 il.o hx);have iA:=zW (RdE.below HR.o hx yQ);have Hg:=zW (RdE.below HJ.o hx yQ);obtain ⟨q0,q1,_⟩:=bx2 (Q9 Hk.o hx);clear hI hx)
   all_goals (
    obtain ⟨bc,oc,rfl,d1⟩:=Y2o Hg.o x1 iO;have d2:=Z2s Hg.o x2 iq;go_wp2_with fail
    go_roundg (tg.length - (i+1))
    case measure=>omega
    case rel=>exact ⟨i+1,x2,sb++(e1++e2),rfl,by rw [io.o],rfl,hlt,s3,iC.o,iz.o,ix.o,iD.o,iE.o,iA.o,Hg.o,yQ⟩)
  ·obtain rfl:i=tg.length:=yY;have he:=HE.o;rw [show rl.drop tg.length=[] by rw [←hn.o,eF],eF,eM,V5r] at he;obtain ⟨e9,Hr⟩:∃ e9:fY,yK (ofL (Q2 (U7 ts p))=e9):=⟨_,rfl⟩;obtain ⟨nb,He⟩:∃ nb:fY,yK (ofL NEW=nb):=⟨_,rfl⟩;obtain ⟨fN,hX⟩:∃ fN,yK (Q4 (X0 (G6 ts 0 rl (tg.map (tsF fmt))))=fN):=⟨_,rfl⟩;have hS:=congrArg List.length he;rw [aA] at hS;have z1:e9.size=(Q2 (U7 ts p)).length:=(by rw [←Hr.o,Q6]);have z3:sb.size=sb.data.toList.length:=aC sb;have iY:e9.size≤1000000:=yY;have iZ:sb.size≤1000000:=yY;have iL:raw.extract (Q2 (Z5 ts p)).length raw.size=e9:=by
    rw [←Hr.o,←hg.o];refine E7 _ _ _ _ ?_;rw [show (ofL (Q2 ts)).data.toList=Q2 ts by simp [ofL],Q6,aW,V4u];simp [ofL]
   have iK:sb++e9=nb:=by
    apply cB;apply bX.1;rw [←He.o,←Hr.o,←he];simp [ofL]
   have iU:(Q2 (Z5 ts p)).length≤raw.size:=(by rw [ig.o];exact Q9m ts p);have hA:=HH.o.new;rw [hh.o,He.o,hX.o] at hA;rw [hX.o] at hM;have iM:fN.length≤500∧X3 fN≤500:=by
    have h1:=Q7c (X0 (G6 ts 0 rl (tg.map (tsF fmt))));have h2:=L2 (X0 (G6 ts 0 rl (tg.map (tsF fmt))));have h3:=S7 _ HH.o.none_;have h4:=HH.o.npos;rw [hX.o] at h1 h2;omega
   have it:Q4 fN=fN:=(by rw [←hX.o,B9 _ (N1 _)]);have CD:=zW (fun (W:World) (hW:Below w.heap.size w W)=>Z4s fmt HH.o.fm nb fN W (hA W (X8 HM.o hW)));have CR:=zW (fun (W:World) (hW:Below w.heap.size w W) (hr:RdT W (.slice Af f.length cf) f)=>Y5b f rl tg _ _ _ W hr (RdE.below ic.o hW yQ) (RdTT.below ih.o hW yQ) hn.o HH.o.rll yY (by rw [hz.o];omega) (by rw [hz.o,Hb.o];exact HH.o.asc) (by rw [Ht.o,←Q8j fmt];exact aP HH.o.npos yX) HH.o.tgn);rw [hM.o] at CR;have hC:=HH.o.num;have hy:=HH.o.knd;rw [hX.o] at hC hy;have CN:=zW (fun (v:Value) (W:World) (hr:RdT W v fN)=>Y4z fN n v W hr yY yY HH.o.nle hy hC);rw [it] at CN;have CSM:=zW (fun (va vb:Value) (W:World) (ha:RdT W va fN) (hb:RdT W vb fN)=>V5j fN va vb W ha hb yY);clear he hS z1 z3 hA it hC hy HS HE HC hgk;generalize (Q2 (Z5 ts p)).length=a0 at *;obtain ⟨x0,x1,_⟩:=bx2 HX.o;go_upto_region 30 with (first
    | (go_at_call 56;refine (CD.o _ (by exact HB.o)).mono ?_;rintro e W1 ⟨vg,rfl,Hw,hk⟩;obtain ⟨Ag,cg,rfl⟩:=Q0 Hw;have HT:=zW (OwnE.rd Q5 Hw);have hl:=zW (HB.o.trans (hk.mono HB.o.size));have hF:=zW (Q9 HX.o hk);have hP:=zW (Q9 HY.o hk);have HK:=zW (RdE.below HF.o hk yQ);clear Hw hk)
    | (go_at_call 71;refine (CR.o _ (by exact hl.o) (by exact HK.o)).mono ?_;rintro e W2 ⟨v2,rfl,hD,hc⟩;obtain ⟨Ah,ch,rfl⟩:=Q0 hD;have HZ:=zW (OwnE.rd Q5 hD);have HU:=zW (RdE.below HT.o hc yQ);have ht:=zW (hl.o.trans (hc.mono hl.o.size));have hN:=zW (Q9 hF.o hc);have hQ:=zW (Q9 hP.o hc);clear hD hc)
    | (go_at_call 70;refine (CN.o _ _ (by exact HZ.o)).mono ?_;rintro e W3 ⟨v3,rfl,Hx,hd⟩;obtain ⟨Ai,ci,rfl⟩:=Q0 Hx;have ia:=zW (OwnE.rd Q5 Hx);have HV:=zW (RdE.below HU.o hd yQ);have hu:=zW (ht.o.trans (hd.mono ht.o.size));have hO:=zW (Q9 hN.o hd);have hR:=zW (Q9 hQ.o hd);clear Hx hd)
    | (go_at_call 69;refine (CSM.o _ _ _ (by exact HV.o) (by exact ia.o)).mono ?_;rintro e W4 ⟨rfl,n4,rfl⟩))
   have CLO:=zW (fun (W:World) (hW:Below w.heap.size w W)=>Z1e ps _ W (RdE.below HP.o hW yQ) yY (by intro e;rw [e] at Hc;simp at Hc));have hq:yK (Below w.heap.size w (W3.drewN n4).drew):=(Q1 hu.o n4).drew;have hw:yK ((W3.drewN n4).drew.heap[g]? =some (.cells #[.int .i64 fmt,.slice (some ⟨b,o,none⟩) ps.length c] 41)):=hO.o;have hG:yK ((W3.drewN n4).drew.heap[g+1]? =some (.cells #[.int .i64 0,.slice none 0 0] 41)):=hR.o;clear HB HX HY HF hl hF hP HK HT HZ HU ht hN hQ HV ia hu hO hR CD CR CN CSM x0 x1;refine zqR (l0:=bL 8 0) 8 kr ?_;show let oo:=_;let q:=_;let a0:=_;wpAny prog _ oo q _ _ a0 _
   intro oo q a0;let a_:Act:=(a0.put (some 135) (.pointer (some ⟨g,0,none⟩))).put (some 137) (.pointer (some ⟨g,1,none⟩))
   let a_0:Act:=a_.put (some 136) (.int .i64 fmt)
   let a_1:Act:=a_.put (some 138) (.slice (some ⟨b,o,none⟩) ps.length c)
   let a_3:Nat→Act:=fun g3=>a_.put (some 23) (.pointer (some ⟨g3,0,none⟩))
   let a_01:Act:=a_0.put (some 138) (.slice (some ⟨b,o,none⟩) ps.length c)
   let a_03:Nat→Act:=fun g3=>a_0.put (some 23) (.pointer (some ⟨g3,0,none⟩))
   let a_12:Option Addr→Nat→Act:=fun A9 c9=>a_1.put (some 139) (.slice A9 ps.length c9)
   let a_13:Nat→Act:=fun g3=>a_1.put (some 23) (.pointer (some ⟨g3,0,none⟩))
   let a_012:Option Addr→Nat→Act:=fun A9 c9=>(a_01.put (some 139) (.slice A9 ps.length c9)).put (some 140) (.agg #[.int .i64 fmt,.slice A9 ps.length c9])
   let a_013:Nat→Act:=fun g3=>a_01.put (some 23) (.pointer (some ⟨g3,0,none⟩))
   let a_123:Option Addr→Nat→Nat→Act:=fun A9 c9 g3=>(a_12 A9 c9).put (some 23) (.pointer (some ⟨g3,0,none⟩))
   let a_0123:Option Addr→Nat→Nat→Act:=fun A9 c9 g3=>(a_012 A9 c9).put (some 23) (.pointer (some ⟨g3,0,none⟩))
   have S01234:∀ (W:World) (A9:Option Addr) (c9:Nat) (g3:Nat),Below w.heap.size w W→W.heap[g]? =some (.cells #[.int .i64 fmt,.slice (some ⟨b,o,none⟩) ps.length c] 41)→W.heap[g+1]? =some (.cells #[.int .i64 0,.slice none 0 0] 41)→W.heap[g3]? =some (.cells #[.int .i64 fmt,.slice A9 ps.length c9] 41)→OwnE 52 ptC 3 W w.heap.size (.slice A9 ps.length c9) ps→wpAny prog .any oo q 0 (bL 8 255) (a_0123 A9 c9 g3) W:=by
    intro W A9 c9 g3 HB HX HY HG HO;simp only [a_0123,a_012,a_01,a_0,a_,a0,Act.put,zZ,zY,zX];refine bW yZ ?_ _;simp only [q];have HD:=zW HB;have Ho:=zW HY;have Ha:=zW HG;have hv:=zW HO;clear HB HX HY HG HO;generalize W=V at *;obtain ⟨bk,rfl,iI⟩:=Z9i hv.o yY;have r2:V.cell? ⟨bk,k * 3+2,none⟩=some (.string raw):=by
     rw [World.ownsRow.cellAt hv.o (k * 3+2) yY,Q2t ptC 3 D3 ps k 2 ps[k] (aF Hc) yX];show some (Value.string ps[k].raw)=_;rw [HH.o.raw,hg.o]
    have f2:=World.ownsRow.frozenAt hv.o (k * 3+2);have iu:=(World.ownsRow.stored hv.o (k * 3+2) (.string nb)).1;have Hj:yK (OwnE 52 ptC 3 (V.setCell ⟨bk,k * 3+2,none⟩ (.string nb)) w.heap.size (.slice (some ⟨bk,0,none⟩) ps.length c9) (ps.set k ⟨true,ps[k].key,nb⟩)):=by
     show OwnE _ _ _ _ _ _ _;unfold OwnE;rw [List.length_set,←Y7j ps k Hc nb HH.o.un];exact iu
    have iN:g3≠bk:=fun e=>Y1 hv.o Ha.o yX bk rfl e.symm;have iX:g+1≠bk:=fun e=>Y1 hv.o Ho.o yX bk rfl e.symm;have Hi:yK ((V.setCell ⟨bk,k * 3+2,none⟩ (.string nb)).heap[g3]? =some (.cells #[.int .i64 fmt,.slice (some ⟨bk,0,none⟩) ps.length c9] 41)):=(aV _ _ _ _ iN).trans Ha.o;have Hn:yK ((V.setCell ⟨bk,k * 3+2,none⟩ (.string nb)).heap[g+1]? =some (.cells #[.int .i64 0,.slice none 0 0] 41)):=(aV _ _ _ _ iX).trans Ho.o;have Hf:=zW (HD.o.setCell (p:=⟨bk,k * 3+2,none⟩) iI (.string nb));have hp:(ps.set k ⟨true,ps[k].key,nb⟩).length=ps.length:=List.length_set;have hB:=HH.o.nsz;rw [hh.o,He.o] at hB;have CB:=zW (fun (W:World) (hr:RdE ptC 3 W (.slice (some ⟨bk,0,none⟩) ps.length c9) (ps.set k ⟨true,ps[k].key,nb⟩))=>Q4b fmt (ps.set k ⟨true,ps[k].key,nb⟩) (some ⟨bk,0,none⟩) c9 W (by rw [hp];exact hr) (by rw [hp];omega) yY);rw [hp] at CB;have iJ:(ofL (Y0 (ps.set k ⟨true,ps[k].key,nb⟩))).size≤65536:=(by rw [Q6];exact hB);generalize ofL (Y0 (ps.set k ⟨true,ps[k].key,nb⟩))=bb at CB iJ;obtain ⟨g0,g1,_⟩:=bx2 Ha.o;have ib:=zW (OwnE.rd D3 Hj.o);clear iu hB hp;go_upto_region 32 with fail
    generalize V.setCell ⟨bk,k * 3+2,none⟩ (.string nb)=V9 at Hj Hi Hn Hf ib ⊢;obtain ⟨h0,h1,_⟩:=bx2 Hi.o;clear g0 g1 r2 f2 Ha Ho hv HD;go_wp2_with (go_at_call 24;refine (CB.o _ (by exact ib.o)).mono ?_;rintro e Vb ⟨rfl,hJ⟩;have iy:=zW (Hf.o.trans (hJ.mono Hf.o.size));have iF:=zW (Q9 Hn.o hJ);have HW:=zW (Q7h Hj.o hJ);obtain ⟨k0,k1,_⟩:=bx2 (Q9 Hi.o hJ);obtain ⟨l0,l1,m0,m1⟩:=bx2 (Q9 Hn.o hJ);clear hJ)
    refine bO (Y9j rfl _ _ (g+1) fmt (some ⟨bk,0,none⟩) ps.length c9 _ rfl rfl yU yU) rfl ?_;rw [ie.o];refine ⟨some ⟨bk,0,none⟩,c9,rfl,?_,(iy.o.setCell (p:=⟨g+1,0,none⟩) (by show _≤g+1;omega) _).setCell (p:=⟨g+1,1,none⟩) (by show _≤g+1;omega) _⟩;rw [hh.o,He.o];have:=(Q7 (w':=(Vb.setCell ⟨g+1,0,none⟩ (.int .i64 fmt)).setCell ⟨g+1,1,none⟩ (.slice (some ⟨bk,0,none⟩) ps.length c9)) HW.o fun j hj=>O3 (fun e=>Y1 HW.o iF.o yX j hj e));unfold OwnE at this ⊢;rw [List.length_set] at this ⊢;exact this
   have S0123:∀ (W:World) (A9:Option Addr) (c9:Nat) (g3:Nat),Below w.heap.size w W→W.heap[g]? =some (.cells #[.int .i64 fmt,.slice (some ⟨b,o,none⟩) ps.length c] 41)→W.heap[g+1]? =some (.cells #[.int .i64 0,.slice none 0 0] 41)→W.heap[g3]? =some (.cells #[.int .i64 0,.slice none 0 0] 41)→g+1 < g3→OwnE 52 ptC 3 W w.heap.size (.slice A9 ps.length c9) ps→wpAny prog .any oo q 1 (bL 8 127) (a_0123 A9 c9 g3) W:=by
    intro W A9 c9 g3 HB HX HY HG hg4 HO;simp only [a_0123,a_012,a_01,a_0,a_,a0,Act.put,zZ,zY,zX];refine zqo 7 rfl ?_;refine X4z (.tmp 23) (.tmp 140) rfl rfl g3 fmt A9 ps.length c9 yZ yZ HG ?_;exact zqX (S01234 ((W.setCell ⟨g3,0,none⟩ (.int .i64 fmt)).setCell ⟨g3,1,none⟩ (.slice A9 ps.length c9)) A9 c9 g3 ((HB.setCell (p:=⟨g3,0,none⟩) (aP ip (cS (Nat.lt_of_succ_lt hg4))) _).setCell (p:=⟨g3,1,none⟩) (aP ip (cS (Nat.lt_of_succ_lt hg4))) _) ((O3 (Nat.ne_of_lt (Nat.lt_of_succ_lt hg4))).trans HX) ((O3 (Nat.ne_of_lt hg4)).trans HY) (Q8x HG) (Q7 HO fun j hj=>O3 (fun e=>Y1 HO HG yX j hj e)))
   have S012:∀ (W:World) (A9:Option Addr) (c9:Nat),Below w.heap.size w W→W.heap[g]? =some (.cells #[.int .i64 fmt,.slice (some ⟨b,o,none⟩) ps.length c] 41)→W.heap[g+1]? =some (.cells #[.int .i64 0,.slice none 0 0] 41)→OwnE 52 ptC 3 W w.heap.size (.slice A9 ps.length c9) ps→wpAny prog .any oo q 2 (bL 8 63) (a_012 A9 c9) W:=by
    intro W A9 c9 HB HX HY HO;simp only [a_012,a_01,a_0,a_,a0,Act.put,zZ,zY,zX];refine zqo 6 rfl ?_;refine X1 (J2 rfl) ?_;exact zqX (S0123 (W.alloc (.cells #[.int .i64 0,.slice none 0 0] 41)) A9 c9 W.heap.size (HB.trans (((aB W.heap.size W).alloc yQ _).mono HB.size)) (Q9 HX ((aB W.heap.size W).alloc yQ _)) (Q9 HY ((aB W.heap.size W).alloc yQ _)) (aT W _) (J5 HY) (Q7h HO ((aB W.heap.size W).alloc yQ _)))
   have S013:∀ (W:World) (g3:Nat),Below w.heap.size w W→W.heap[g]? =some (.cells #[.int .i64 fmt,.slice (some ⟨b,o,none⟩) ps.length c] 41)→W.heap[g+1]? =some (.cells #[.int .i64 0,.slice none 0 0] 41)→W.heap[g3]? =some (.cells #[.int .i64 0,.slice none 0 0] 41)→g+1 < g3→wpAny prog .any oo q 3 (bL 8 79) (a_013 g3) W:=by
    intro W g3 HB HX HY HG hg4;simp only [a_013,a_01,a_0,a_,a0,Act.put,zZ,zY,zX];refine zqo 4 rfl ?_;refine Q1r (.slice (some ⟨b,o,none⟩) ps.length c) rfl func72 (CLO.o W HB) ?_;rintro e W5 ⟨v9,rfl,ho,hb⟩;obtain ⟨A9,c9,rfl⟩:=Q0 ho;refine ⟨.slice A9 ps.length c9,rfl,?_⟩;refine zzA 5 (.agg #[.int .i64 fmt,.slice A9 ps.length c9]) (some 140) rfl (fun _=>Q8h (.tmp 136) (.tmp 139) fmt A9 ps.length c9 rfl yZ yZ) ?_;exact zqX (S0123 W5 A9 c9 g3 (HB.trans (hb.mono HB.size)) (Q9 HX hb) (Q9 HY hb) (Q9 HG hb) hg4 (Y3 ho HB.size))
   have S123:∀ (W:World) (A9:Option Addr) (c9:Nat) (g3:Nat),Below w.heap.size w W→W.heap[g]? =some (.cells #[.int .i64 fmt,.slice (some ⟨b,o,none⟩) ps.length c] 41)→W.heap[g+1]? =some (.cells #[.int .i64 0,.slice none 0 0] 41)→W.heap[g3]? =some (.cells #[.int .i64 0,.slice none 0 0] 41)→g+1 < g3→OwnE 52 ptC 3 W w.heap.size (.slice A9 ps.length c9) ps→wpAny prog .any oo q 3 (bL 8 93) (a_123 A9 c9 g3) W:=by
    intro W A9 c9 g3 HB HX HY HG hg4 HO;simp only [a_123,a_12,a_1,a_,a0,Act.put,zZ,zY,zX];refine zqo 1 rfl ?_;refine zqL (.int .i64 fmt) rfl (.pointer (some ⟨g,0,none⟩)) (F3 (bx2 HX).1) ?_;refine zzA 5 (.agg #[.int .i64 fmt,.slice A9 ps.length c9]) (some 140) rfl (fun _=>Q8h (.tmp 136) (.tmp 139) fmt A9 ps.length c9 rfl yZ yZ) ?_;exact zqX (S0123 W A9 c9 g3 HB HX HY HG hg4 HO)
   have S01:∀ (W:World),Below w.heap.size w W→W.heap[g]? =some (.cells #[.int .i64 fmt,.slice (some ⟨b,o,none⟩) ps.length c] 41)→W.heap[g+1]? =some (.cells #[.int .i64 0,.slice none 0 0] 41)→wpAny prog .any oo q 4 (bL 8 15) a_01 W:=by
    intro W HB HX HY;simp only [a_01,a_0,a_,a0,Act.put,zZ,zY,zX];refine zqt 4 6 rfl rfl ?_ ?_
    ·refine Q1r (.slice (some ⟨b,o,none⟩) ps.length c) rfl func72 (CLO.o W HB) ?_;rintro e W5 ⟨v9,rfl,ho,hb⟩;obtain ⟨A9,c9,rfl⟩:=Q0 ho;refine ⟨.slice A9 ps.length c9,rfl,?_⟩;refine zzA 5 (.agg #[.int .i64 fmt,.slice A9 ps.length c9]) (some 140) rfl (fun _=>Q8h (.tmp 136) (.tmp 139) fmt A9 ps.length c9 rfl yZ yZ) ?_;exact zqX (S012 W5 A9 c9 (HB.trans (hb.mono HB.size)) (Q9 HX hb) (Q9 HY hb) (Y3 ho HB.size))
    ·refine X1 (J2 rfl) ?_;exact zqX (S013 (W.alloc (.cells #[.int .i64 0,.slice none 0 0] 41)) W.heap.size (HB.trans (((aB W.heap.size W).alloc yQ _).mono HB.size)) (Q9 HX ((aB W.heap.size W).alloc yQ _)) (Q9 HY ((aB W.heap.size W).alloc yQ _)) (aT W _) (J5 HY))
   have S03:∀ (W:World) (g3:Nat),Below w.heap.size w W→W.heap[g]? =some (.cells #[.int .i64 fmt,.slice (some ⟨b,o,none⟩) ps.length c] 41)→W.heap[g+1]? =some (.cells #[.int .i64 0,.slice none 0 0] 41)→W.heap[g3]? =some (.cells #[.int .i64 0,.slice none 0 0] 41)→g+1 < g3→wpAny prog .any oo q 4 (bL 8 71) (a_03 g3) W:=by
    intro W g3 HB HX HY HG hg4;simp only [a_03,a_0,a_,a0,Act.put,zZ,zY,zX];refine zqo 3 rfl ?_;refine zqL (.slice (some ⟨b,o,none⟩) ps.length c) rfl (.pointer (some ⟨g,1,none⟩)) (Q2g (bx2 HX).2.1) ?_;exact zqX (S013 W g3 HB HX HY HG hg4)
   have S12:∀ (W:World) (A9:Option Addr) (c9:Nat),Below w.heap.size w W→W.heap[g]? =some (.cells #[.int .i64 fmt,.slice (some ⟨b,o,none⟩) ps.length c] 41)→W.heap[g+1]? =some (.cells #[.int .i64 0,.slice none 0 0] 41)→OwnE 52 ptC 3 W w.heap.size (.slice A9 ps.length c9) ps→wpAny prog .any oo q 4 (bL 8 29) (a_12 A9 c9) W:=by
    intro W A9 c9 HB HX HY HO;simp only [a_12,a_1,a_,a0,Act.put,zZ,zY,zX];refine zqt 1 6 rfl rfl ?_ ?_
    ·refine zqL (.int .i64 fmt) rfl (.pointer (some ⟨g,0,none⟩)) (F3 (bx2 HX).1) ?_;refine zzA 5 (.agg #[.int .i64 fmt,.slice A9 ps.length c9]) (some 140) rfl (fun _=>Q8h (.tmp 136) (.tmp 139) fmt A9 ps.length c9 rfl yZ yZ) ?_;exact zqX (S012 W A9 c9 HB HX HY HO)
    ·refine X1 (J2 rfl) ?_;exact zqX (S123 (W.alloc (.cells #[.int .i64 0,.slice none 0 0] 41)) A9 c9 W.heap.size (HB.trans (((aB W.heap.size W).alloc yQ _).mono HB.size)) (Q9 HX ((aB W.heap.size W).alloc yQ _)) (Q9 HY ((aB W.heap.size W).alloc yQ _)) (aT W _) (J5 HY) (Q7h HO ((aB W.heap.size W).alloc yQ _)))
   have S13:∀ (W:World) (g3:Nat),Below w.heap.size w W→W.heap[g]? =some (.cells #[.int .i64 fmt,.slice (some ⟨b,o,none⟩) ps.length c] 41)→W.heap[g+1]? =some (.cells #[.int .i64 0,.slice none 0 0] 41)→W.heap[g3]? =some (.cells #[.int .i64 0,.slice none 0 0] 41)→g+1 < g3→wpAny prog .any oo q 4 (bL 8 77) (a_13 g3) W:=by
    intro W g3 HB HX HY HG hg4;simp only [a_13,a_1,a_,a0,Act.put,zZ,zY,zX];refine zqt 1 4 rfl rfl ?_ ?_
    ·refine zqL (.int .i64 fmt) rfl (.pointer (some ⟨g,0,none⟩)) (F3 (bx2 HX).1) ?_;exact zqX (S013 W g3 HB HX HY HG hg4)
    ·refine Q1r (.slice (some ⟨b,o,none⟩) ps.length c) rfl func72 (CLO.o W HB) ?_;rintro e W5 ⟨v9,rfl,ho,hb⟩;obtain ⟨A9,c9,rfl⟩:=Q0 ho;refine ⟨.slice A9 ps.length c9,rfl,?_⟩;exact zqX (S123 W5 A9 c9 g3 (HB.trans (hb.mono HB.size)) (Q9 HX hb) (Q9 HY hb) (Q9 HG hb) hg4 (Y3 ho HB.size))
   have S0:∀ (W:World),Below w.heap.size w W→W.heap[g]? =some (.cells #[.int .i64 fmt,.slice (some ⟨b,o,none⟩) ps.length c] 41)→W.heap[g+1]? =some (.cells #[.int .i64 0,.slice none 0 0] 41)→wpAny prog .any oo q 5 (bL 8 7) a_0 W:=by
    intro W HB HX HY;simp only [a_0,a_,a0,Act.put,zZ,zY,zX];refine zqt 3 6 rfl rfl ?_ ?_
    ·refine zqL (.slice (some ⟨b,o,none⟩) ps.length c) rfl (.pointer (some ⟨g,1,none⟩)) (Q2g (bx2 HX).2.1) ?_;exact zqX (S01 W HB HX HY)
    ·refine X1 (J2 rfl) ?_;exact zqX (S03 (W.alloc (.cells #[.int .i64 0,.slice none 0 0] 41)) W.heap.size (HB.trans (((aB W.heap.size W).alloc yQ _).mono HB.size)) (Q9 HX ((aB W.heap.size W).alloc yQ _)) (Q9 HY ((aB W.heap.size W).alloc yQ _)) (aT W _) (J5 HY))
   have S1:∀ (W:World),Below w.heap.size w W→W.heap[g]? =some (.cells #[.int .i64 fmt,.slice (some ⟨b,o,none⟩) ps.length c] 41)→W.heap[g+1]? =some (.cells #[.int .i64 0,.slice none 0 0] 41)→wpAny prog .any oo q 5 (bL 8 13) a_1 W:=by
    intro W HB HX HY;simp only [a_1,a_,a0,Act.put,zZ,zY,zX];refine zqh 1 4 6 rfl rfl rfl ?_ ?_ ?_
    ·refine zqL (.int .i64 fmt) rfl (.pointer (some ⟨g,0,none⟩)) (F3 (bx2 HX).1) ?_;exact zqX (S01 W HB HX HY)
    ·refine Q1r (.slice (some ⟨b,o,none⟩) ps.length c) rfl func72 (CLO.o W HB) ?_;rintro e W5 ⟨v9,rfl,ho,hb⟩;obtain ⟨A9,c9,rfl⟩:=Q0 ho;refine ⟨.slice A9 ps.length c9,rfl,?_⟩;exact zqX (S12 W5 A9 c9 (HB.trans (hb.mono HB.size)) (Q9 HX hb) (Q9 HY hb) (Y3 ho HB.size))
    ·refine X1 (J2 rfl) ?_;exact zqX (S13 (W.alloc (.cells #[.int .i64 0,.slice none 0 0] 41)) W.heap.size (HB.trans (((aB W.heap.size W).alloc yQ _).mono HB.size)) (Q9 HX ((aB W.heap.size W).alloc yQ _)) (Q9 HY ((aB W.heap.size W).alloc yQ _)) (aT W _) (J5 HY))
   have S3:∀ (W:World) (g3:Nat),Below w.heap.size w W→W.heap[g]? =some (.cells #[.int .i64 fmt,.slice (some ⟨b,o,none⟩) ps.length c] 41)→W.heap[g+1]? =some (.cells #[.int .i64 0,.slice none 0 0] 41)→W.heap[g3]? =some (.cells #[.int .i64 0,.slice none 0 0] 41)→g+1 < g3→wpAny prog .any oo q 5 (bL 8 69) (a_3 g3) W:=by
    intro W g3 HB HX HY HG hg4;simp only [a_3,a_,a0,Act.put,zZ,zY,zX];refine zqt 1 3 rfl rfl ?_ ?_
    ·refine zqL (.int .i64 fmt) rfl (.pointer (some ⟨g,0,none⟩)) (F3 (bx2 HX).1) ?_;exact zqX (S03 W g3 HB HX HY HG hg4)
    ·refine zqL (.slice (some ⟨b,o,none⟩) ps.length c) rfl (.pointer (some ⟨g,1,none⟩)) (Q2g (bx2 HX).2.1) ?_;exact zqX (S13 W g3 HB HX HY HG hg4)
   have S:∀ (W:World),Below w.heap.size w W→W.heap[g]? =some (.cells #[.int .i64 fmt,.slice (some ⟨b,o,none⟩) ps.length c] 41)→W.heap[g+1]? =some (.cells #[.int .i64 0,.slice none 0 0] 41)→wpAny prog .any oo q 8 (bL 8 0) a0 W:=by
    intro W HB HX HY;simp only [a0,Act.put,zZ,zY,zX];refine zqF 0 135 (.pointer (some ⟨g,0,none⟩)) rfl rfl (.pointer (some ⟨g,0,none⟩)) ?_;refine zqF 2 137 (.pointer (some ⟨g,1,none⟩)) rfl rfl (.pointer (some ⟨g,0,none⟩)) ?_;simp only [Act.put,zZ,zY,zX];refine zqh 1 3 6 rfl rfl rfl ?_ ?_ ?_
    ·refine zqL (.int .i64 fmt) rfl (.pointer (some ⟨g,0,none⟩)) (F3 (bx2 HX).1) ?_;exact zqX (S0 W HB HX HY)
    ·refine zqL (.slice (some ⟨b,o,none⟩) ps.length c) rfl (.pointer (some ⟨g,1,none⟩)) (Q2g (bx2 HX).2.1) ?_;exact zqX (S1 W HB HX HY)
    ·refine X1 (J2 rfl) ?_;exact zqX (S3 (W.alloc (.cells #[.int .i64 0,.slice none 0 0] 41)) W.heap.size (HB.trans (((aB W.heap.size W).alloc yQ _).mono HB.size)) (Q9 HX ((aB W.heap.size W).alloc yQ _)) (Q9 HY ((aB W.heap.size W).alloc yQ _)) (aT W _) (J5 HY))
   exact S _ hq.o hw.o hG.o
def Y5v (w:World) (rs:List Ru) (e:Ending) (w':World):Prop:=∃ v,e=.returned v∧RdRu w' v rs∧Below w.heap.size w w'
def atE (m:Int) (b:Bool):Array Value:=#[.int .u8 0,.int .u8 0,.int .u8 0,.int .u8 0,.int .u8 0,.int .u8 0,.int .u8 0,.int .u8 0,.int .u8 0,.int .u8 0,.int .u8 0,.int .u8 0,.int .u8 0,.int .u8 0,.int .u8 0,.int .u8 0,.int .u8 0,.int .u8 0,.int .u8 0,.int .u8 0,.int .u8 0,.int .u8 0,.int .u8 0,.int .u8 0,.int .u8 0,.int .u8 0,.int .u8 0,.int .u8 0,.int .u8 0,.int .u8 0,.int .u8 0,.int .u8 0,.int .i64 m,.bool b]
theorem AtIn.lt {w:World} {g:Nat} {x:At} (h:AtIn w g x):g < w.heap.size:=(aN.1 h).1
theorem AtIn.setSet {w:World} {g:Nat} {p:Nat→Bool} {mn:Int} {many:Bool} (h:AtIn w g ⟨p,mn,many⟩) (q:Nat→Bool) (k:Nat) (hk:k < 32) (hq:∀ i,i < 32→i≠k→N8 q i=N8 p i):AtIn (w.setCell ⟨g,k,none⟩ (.int .u8 (N8 q k:Nat))) g ⟨q,mn,many⟩:=by
 unfold AtIn at *;rw [heap_setCell_same w g k _ _ _ h];congr 2;have h1:=V5m p q k hk hq;rw [fW] at h1 ⊢;have h2:(X9n p).set k (.int .u8 (N8 q k:Nat))=X9n q:=(by simpa using h1);unfold atC;rw [List.set_append_left _ _ (by rw [N3];exact hk),h2]
def Z7r:Nat→Bool:=V6s noP 46
def Q7x:Nat→Bool:=V6s Z7r 33
def V0l:Nat→Bool:=V6s noP 32
def G8:Ru:=⟨true,[⟨Q7x,1,false⟩],[⟨V0l,1,false⟩]⟩
theorem V2b:∀ i,i < 32→i≠5→N8 Z7r i=N8 noP i:=yX
theorem V0o:∀ i,i < 32→i≠4→N8 Q7x i=N8 Z7r i:=yX
theorem V5q:∀ i,i < 32→i≠4→N8 V0l i=N8 noP i:=yX
theorem U2q (w:World):AtIn ((w.alloc (.cells (atE 0 false) 107)).alloc (.cells (atE 0 false) 107)) (w.heap.size+1) ⟨noP,0,false⟩:=by
 have h:=X5w (w.alloc (.cells (atE 0 false) 107));rw [show (w.alloc (.cells (atE 0 false) 107)).heap.size=w.heap.size+1 from Array.size_push ..] at h;exact h
theorem U2r (w:World):AtIn ((w.alloc (.cells (atE 0 false) 107)).alloc (.cells (atE 0 false) 107)) w.heap.size ⟨noP,0,false⟩:=
 (X5w w).keep (bE _ _ _ (by show w.heap.size < (w.heap.push _).size;rw [Array.size_push];omega))
theorem Z0a (w:World):Calls prog 19 #[] w (Y5v w [G8]):=by
 obtain ⟨R,hu⟩:∃ R,yK (R=Y5v w [G8]):=⟨_,rfl⟩;rw [←hu.o];have ha:=zW (U2q w);have hb:=zW (U2r w);have hf:yK (Below w.heap.size w ((w.alloc (.cells #[.int .u8 0,.int .u8 0,.int .u8 0,.int .u8 0,.int .u8 0,.int .u8 0,.int .u8 0,.int .u8 0,.int .u8 0,.int .u8 0,.int .u8 0,.int .u8 0,.int .u8 0,.int .u8 0,.int .u8 0,.int .u8 0,.int .u8 0,.int .u8 0,.int .u8 0,.int .u8 0,.int .u8 0,.int .u8 0,.int .u8 0,.int .u8 0,.int .u8 0,.int .u8 0,.int .u8 0,.int .u8 0,.int .u8 0,.int .u8 0,.int .u8 0,.int .u8 0,.int .i64 0,.bool false] 107)).alloc (.cells #[.int .u8 0,.int .u8 0,.int .u8 0,.int .u8 0,.int .u8 0,.int .u8 0,.int .u8 0,.int .u8 0,.int .u8 0,.int .u8 0,.int .u8 0,.int .u8 0,.int .u8 0,.int .u8 0,.int .u8 0,.int .u8 0,.int .u8 0,.int .u8 0,.int .u8 0,.int .u8 0,.int .u8 0,.int .u8 0,.int .u8 0,.int .u8 0,.int .u8 0,.int .u8 0,.int .u8 0,.int .u8 0,.int .u8 0,.int .u8 0,.int .u8 0,.int .u8 0,.int .i64 0,.bool false] 107))):=zW (((aB _ w).alloc yQ _).alloc (by rw [show (w.alloc (.cells #[.int .u8 0,.int .u8 0,.int .u8 0,.int .u8 0,.int .u8 0,.int .u8 0,.int .u8 0,.int .u8 0,.int .u8 0,.int .u8 0,.int .u8 0,.int .u8 0,.int .u8 0,.int .u8 0,.int .u8 0,.int .u8 0,.int .u8 0,.int .u8 0,.int .u8 0,.int .u8 0,.int .u8 0,.int .u8 0,.int .u8 0,.int .u8 0,.int .u8 0,.int .u8 0,.int .u8 0,.int .u8 0,.int .u8 0,.int .u8 0,.int .u8 0,.int .u8 0,.int .i64 0,.bool false] 107)).heap.size=w.heap.size+1 from Array.size_push ..];omega) _);change yK (AtIn ((w.alloc (.cells #[.int .u8 0,.int .u8 0,.int .u8 0,.int .u8 0,.int .u8 0,.int .u8 0,.int .u8 0,.int .u8 0,.int .u8 0,.int .u8 0,.int .u8 0,.int .u8 0,.int .u8 0,.int .u8 0,.int .u8 0,.int .u8 0,.int .u8 0,.int .u8 0,.int .u8 0,.int .u8 0,.int .u8 0,.int .u8 0,.int .u8 0,.int .u8 0,.int .u8 0,.int .u8 0,.int .u8 0,.int .u8 0,.int .u8 0,.int .u8 0,.int .u8 0,.int .u8 0,.int .i64 0,.bool false] 107)).alloc (.cells #[.int .u8 0,.int .u8 0,.int .u8 0,.int .u8 0,.int .u8 0,.int .u8 0,.int .u8 0,.int .u8 0,.int .u8 0,.int .u8 0,.int .u8 0,.int .u8 0,.int .u8 0,.int .u8 0,.int .u8 0,.int .u8 0,.int .u8 0,.int .u8 0,.int .u8 0,.int .u8 0,.int .u8 0,.int .u8 0,.int .u8 0,.int .u8 0,.int .u8 0,.int .u8 0,.int .u8 0,.int .u8 0,.int .u8 0,.int .u8 0,.int .u8 0,.int .u8 0,.int .i64 0,.bool false] 107)) (w.heap.size+1) ⟨noP,0,false⟩) at ha
 change yK (AtIn ((w.alloc (.cells #[.int .u8 0,.int .u8 0,.int .u8 0,.int .u8 0,.int .u8 0,.int .u8 0,.int .u8 0,.int .u8 0,.int .u8 0,.int .u8 0,.int .u8 0,.int .u8 0,.int .u8 0,.int .u8 0,.int .u8 0,.int .u8 0,.int .u8 0,.int .u8 0,.int .u8 0,.int .u8 0,.int .u8 0,.int .u8 0,.int .u8 0,.int .u8 0,.int .u8 0,.int .u8 0,.int .u8 0,.int .u8 0,.int .u8 0,.int .u8 0,.int .u8 0,.int .u8 0,.int .i64 0,.bool false] 107)).alloc (.cells #[.int .u8 0,.int .u8 0,.int .u8 0,.int .u8 0,.int .u8 0,.int .u8 0,.int .u8 0,.int .u8 0,.int .u8 0,.int .u8 0,.int .u8 0,.int .u8 0,.int .u8 0,.int .u8 0,.int .u8 0,.int .u8 0,.int .u8 0,.int .u8 0,.int .u8 0,.int .u8 0,.int .u8 0,.int .u8 0,.int .u8 0,.int .u8 0,.int .u8 0,.int .u8 0,.int .u8 0,.int .u8 0,.int .u8 0,.int .u8 0,.int .u8 0,.int .u8 0,.int .i64 0,.bool false] 107)) w.heap.size ⟨noP,0,false⟩) at hb
 go_enter func19,ntmps19
 go_upto_region 2 with fail
 generalize ((w.alloc (.cells #[.int .u8 0,.int .u8 0,.int .u8 0,.int .u8 0,.int .u8 0,.int .u8 0,.int .u8 0,.int .u8 0,.int .u8 0,.int .u8 0,.int .u8 0,.int .u8 0,.int .u8 0,.int .u8 0,.int .u8 0,.int .u8 0,.int .u8 0,.int .u8 0,.int .u8 0,.int .u8 0,.int .u8 0,.int .u8 0,.int .u8 0,.int .u8 0,.int .u8 0,.int .u8 0,.int .u8 0,.int .u8 0,.int .u8 0,.int .u8 0,.int .u8 0,.int .u8 0,.int .i64 0,.bool false] 107)).alloc (.cells #[.int .u8 0,.int .u8 0,.int .u8 0,.int .u8 0,.int .u8 0,.int .u8 0,.int .u8 0,.int .u8 0,.int .u8 0,.int .u8 0,.int .u8 0,.int .u8 0,.int .u8 0,.int .u8 0,.int .u8 0,.int .u8 0,.int .u8 0,.int .u8 0,.int .u8 0,.int .u8 0,.int .u8 0,.int .u8 0,.int .u8 0,.int .u8 0,.int .u8 0,.int .u8 0,.int .u8 0,.int .u8 0,.int .u8 0,.int .u8 0,.int .u8 0,.int .u8 0,.int .i64 0,.bool false] 107))=w2 at ha hb hf ⊢;generalize hg1:w.heap.size=g1 at ha hb hf ⊢;have hg:=zW hg1;clear hg1;obtain ⟨g2,hw⟩:∃ g2,yK (g1+1=g2):=⟨_,rfl⟩;rw [hw.o] at ha ⊢;have hG:g1 < g2:=(by have:=hw.o;omega);have q1:=hb.o.mn;have q2:=hb.o.free 32;have q3:=ha.o.mn;have q4:=ha.o.free 32;go_upto_region 3 with fail
 have hc:yK (AtIn ((w2.setCell ⟨g1,32,none⟩ (.int .i64 1)).setCell ⟨g2,32,none⟩ (.int .i64 1)) g1 ⟨noP,1,false⟩):=zW ((hb.o.setMn 1).keep (eV _ _ _ _ (by show g1≠g2;omega)));have hp:yK (AtIn ((w2.setCell ⟨g1,32,none⟩ (.int .i64 1)).setCell ⟨g2,32,none⟩ (.int .i64 1)) g2 ⟨noP,1,false⟩):=zW (AtIn.setMn (ha.o.keep (eV _ _ _ _ (by show g2≠g1;omega))) 1);have hj:=zW ((hf.o.setCell (p:=⟨g1,32,none⟩) yQ (.int .i64 1)).setCell (p:=⟨g2,32,none⟩) (by show _≤g2;omega) (.int .i64 1));generalize (w2.setCell ⟨g1,32,none⟩ (.int .i64 1)).setCell ⟨g2,32,none⟩ (.int .i64 1)=w3 at hc hp hj ⊢;clear q1 q2 q3 q4 hb ha hf;have q1:w3.cell? ⟨g1,5,none⟩=some (.int .u8 0):=hc.o.range 5 _ (by rfl);have q2:=hc.o.free 5;go_upto_region 4 with fail
 have hd:yK (AtIn (w3.setCell ⟨g1,5,none⟩ (.int .u8 (bits BinOp.or .u8 0 64))) g1 ⟨Z7r,1,false⟩):=zW (hc.o.setSet Z7r 5 yX V2b);have hq:yK (AtIn (w3.setCell ⟨g1,5,none⟩ (.int .u8 (bits BinOp.or .u8 0 64))) g2 ⟨noP,1,false⟩):=zW (hp.o.keep (eV _ _ _ _ (by show g2≠g1;omega)));have hk:=zW (hj.o.setCell (p:=⟨g1,5,none⟩) yQ (.int .u8 (bits BinOp.or .u8 0 64)));generalize w3.setCell ⟨g1,5,none⟩ (.int .u8 (bits BinOp.or .u8 0 64))=w4 at hd hq hk ⊢;clear q1 q2 hc hp hj;have q1:w4.cell? ⟨g1,4,none⟩=some (.int .u8 0):=hd.o.range 4 _ (by rfl);have q2:=hd.o.free 4;go_upto_region 5 with fail
 have hn:yK (AtIn (w4.setCell ⟨g1,4,none⟩ (.int .u8 (bits BinOp.or .u8 0 2))) g1 ⟨Q7x,1,false⟩):=zW (hd.o.setSet Q7x 4 yX V0o);have he:yK (AtIn (w4.setCell ⟨g1,4,none⟩ (.int .u8 (bits BinOp.or .u8 0 2))) g2 ⟨noP,1,false⟩):=zW (hq.o.keep (eV _ _ _ _ (by show g2≠g1;omega)));have hl:=zW (hk.o.setCell (p:=⟨g1,4,none⟩) yQ (.int .u8 (bits BinOp.or .u8 0 2)));generalize w4.setCell ⟨g1,4,none⟩ (.int .u8 (bits BinOp.or .u8 0 2))=w5 at hn he hl ⊢;clear q1 q2 hd hq hk;have q1:w5.cell? ⟨g2,4,none⟩=some (.int .u8 0):=he.o.range 4 _ (by rfl);have q2:=he.o.free 4;go_upto_region 6 with fail
 have hh:yK (AtIn (w5.setCell ⟨g2,4,none⟩ (.int .u8 (bits BinOp.or .u8 0 1))) g2 ⟨V0l,1,false⟩):=zW (he.o.setSet V0l 4 yX V5q);have ho:yK (AtIn (w5.setCell ⟨g2,4,none⟩ (.int .u8 (bits BinOp.or .u8 0 1))) g1 ⟨Q7x,1,false⟩):=zW (hn.o.keep (eV _ _ _ _ (by show g1≠g2;omega)));have hm:=zW (hl.o.setCell (p:=⟨g2,4,none⟩) (by show _≤g2;omega) (.int .u8 (bits BinOp.or .u8 0 1)));generalize w5.setCell ⟨g2,4,none⟩ (.int .u8 (bits BinOp.or .u8 0 1))=w6 at ho hh hm ⊢;clear q1 q2 hn he hl;obtain ⟨sa,hA⟩:∃ sa:At,yK (sa=⟨Q7x,1,false⟩):=⟨⟨Q7x,1,false⟩,rfl⟩;obtain ⟨ta,hB⟩:∃ ta:At,yK (ta=⟨V0l,1,false⟩):=⟨⟨V0l,1,false⟩,rfl⟩;rw [←hA.o] at ho;rw [←hB.o] at hh;have hE:=zW (hh.o.keep (bE w6 (.cells (atC sa).toArray 107) g2 hh.o.lt));have hs:=(hm.o.alloc (by have:=hm.o.size;have:=hg.o;omega) (.cells (atC sa).toArray 107));have hv:=hs.alloc (by have:=hs.size;have:=hg.o;omega) (.cells (atC ta).toArray 107);have e7:(w6.alloc (.cells (atC sa).toArray 107)).heap.size=w6.heap.size+1:=yW;have hy:=((Z3 atC 34 G2 w6 w6.heap.size rfl sa 107).alloc (.cells (atC ta).toArray 107));have hz:=Z3 atC 34 G2 (w6.alloc (.cells (atC sa).toArray 107)) (w6.heap.size+1) e7 ta 107;have hC:=zW hy;have hD:=zW hz;have ht:=zW hv;clear hy hz hv hs e7;go_wp2_with (first
  | (refine wpList_load_row rfl 107 (.tmp 1) rfl g1 rfl 107 (atC sa).toArray (0,0) _ ho.o underlying107 rfl (by rw [Q3y,X0u]) ?_;refine Q6h rfl (.tmp 23) (by rfl) sa (by rfl) ?_)
  | (refine wpList_load_row rfl 107 (.tmp 2) rfl g2 rfl 107 (atC ta).toArray (0,0) _ hE.o underlying107 rfl (by rw [Q3y,X0u]) ?_;refine Q6h rfl (.tmp 25) (by rfl) ta (by rfl) ?_))
 rw [hu.o];have e8:((w6.alloc (.cells (atC sa).toArray 107)).alloc (.cells (atC ta).toArray 107)).heap.size=w6.heap.size+1+1:=yW;have hF:=Z3 ruC 3 V9n ((w6.alloc (.cells (atC sa).toArray 107)).alloc (.cells (atC ta).toArray 107)) (w6.heap.size+1+1) e8 (RuV.mk true ⟨some ⟨w6.heap.size,0,none⟩,1,1⟩ ⟨some ⟨w6.heap.size+1,0,none⟩,1,1⟩) 110;refine ⟨.slice (some ⟨w6.heap.size+1+1,0,none⟩) 1 1,rfl,⟨_,hF,rfl,fun i x r hx hr=>?_⟩,?_⟩
 ·have hi:i=0:=(by have:=(aM.1 hx).1;simpa using this);subst hi;obtain rfl:=eA hx;obtain rfl:=eA hr;refine ⟨rfl,?_,?_⟩
  ·have h:=hC.o.alloc (.cells (ruC (RuV.mk true ⟨some ⟨w6.heap.size,0,none⟩,1,1⟩ ⟨some ⟨w6.heap.size+1,0,none⟩,1,1⟩)).toArray 110);have e:G8.bf=[sa]:=(by rw [hA.o];rfl);show RdE atC 34 _ _ G8.bf;rw [e];exact h
  ·have h:=hD.o.alloc (.cells (ruC (RuV.mk true ⟨some ⟨w6.heap.size,0,none⟩,1,1⟩ ⟨some ⟨w6.heap.size+1,0,none⟩,1,1⟩)).toArray 110);have e:G8.af=[ta]:=(by rw [hB.o];rfl);show RdE atC 34 _ _ G8.af;rw [e];exact h
 ·rw [hg.o];exact ht.o.alloc (by have:=ht.o.size;have:=hg.o;omega) _
def wB:List UInt8:=[98]
def Q5o:Els:=[([83],some (chI 83)),([97],some (chI 97)),([118],some (chI 118)),([101],some (chI 101)),([46],some (chI 46)),([32],some (chI 32)),([60,98,62],some ⟨2,ofL wB,1⟩),([82],some (chI 82)),([101],some (chI 101)),([100],some (chI 100)),([60,47,98,62],some ⟨3,ofL wB,1⟩),([32],some (chI 32)),([99],some (chI 99)),([97],some (chI 97)),([114],some (chI 114)),([33],some (chI 33))]
theorem Q8l:RawOk 1 Q5o:=by
 refine ⟨fun e he=>?_,Q2a _ fun e he=>?_,?_,yX⟩
 ·simp only [Q5o,aU,cL,eL] at he;rcases he with rfl | rfl | rfl | rfl | rfl | rfl | rfl | rfl | rfl | rfl | rfl | rfl | rfl | rfl | rfl | rfl
  all_goals first
   | exact ElOk.ch1 _ yX
   | exact ElOk.opn wB 1 yX yX
   | exact ElOk.cls wB 1 yX yX
 ·simp only [Q5o,aU,cL,eL] at he;rcases he with rfl | rfl | rfl | rfl | rfl | rfl | rfl | rfl | rfl | rfl | rfl | rfl | rfl | rfl | rfl | rfl
  all_goals exact fun h=>by cases h
 ·show NumOk [chI 83,chI 97,chI 118,chI 101,chI 46,chI 32,⟨2,ofL wB,1⟩,chI 82,chI 101,chI 100,⟨3,ofL wB,1⟩,chI 32,chI 99,chI 97,chI 114,chI 33] 0 [];simp [NumOk,chI];exact ⟨_,[],⟨rfl,rfl⟩,rfl,rfl,rfl⟩
def knF:List Tk:=[⟨1,⟨#[83,97,118,101,46,32]⟩,0⟩,⟨2,ofL wB,1⟩,⟨1,⟨#[82,101,100]⟩,0⟩,⟨3,ofL wB,1⟩,⟨1,⟨#[32,99,97,114,33]⟩,0⟩]
theorem V3m:X0 Q5o=X9 knF:=rfl
theorem Z8n:Normal knF:=by
 have t:∀ (b:fY) (l:List Tk),b.size≠0→(∀ y,l.head? =some y→y.k≠1)→Normal l→Normal (⟨1,b,0⟩::l):=fun b l h1 h2 h3=>⟨fun _=>⟨h1,rfl,h2⟩,h3⟩;have o:∀ (x:Tk) (l:List Tk),x.k≠1→Normal l→Normal (x::l):=fun x l h1 h3=>⟨fun h=>absurd h h1,h3⟩;unfold knF;refine t _ _ yX (fun y hy=>?_) (o _ _ (by show (2:Int)≠1;decide) (t _ _ yX (fun y hy=>?_) (o _ _ (by show (3:Int)≠1;decide) (t _ _ yX (fun y hy=>?_) trivial))))
 ·injection hy with hy;rw [←hy];show (2:Int)≠1;decide
 ·injection hy with hy;rw [←hy];show (3:Int)≠1;decide
 ·cases hy
theorem V8m:Q4 (X0 Q5o)=knF:=by rw [V3m,X5h _ Z8n]
theorem Z8o:E5 [G8] knF=[(0,5),(6,16)]:=by decide+kernel
def knG:List Tk:=[⟨1,⟨#[83,105,99,104,101,114,110,46]⟩,0⟩]
def Q7a:Els:=G6 Q5o 0 [(0,5)] [tsF 1 knG]
theorem Y2c:∀ x∈knG,V8 x:=fun x hx=>Or.inl (by rw [aJ.1 hx])
theorem X8a:Normal knG:=⟨fun _=>⟨yX,rfl,fun y hy=>by cases hy⟩,trivial⟩
theorem V8k:ValF knG:=Z9k knG X8a Y2c yX
theorem Y7w:Q7a=[([83],some (chI 83)),([105],some (chI 105)),([99],some (chI 99)),([104],some (chI 104)),([101],some (chI 101)),([114],some (chI 114)),([110],some (chI 110)),([46],some (chI 46)),([32],some (chI 32)),([60,98,62],some ⟨2,ofL wB,1⟩),([82],some (chI 82)),([101],some (chI 101)),([100],some (chI 100)),([60,47,98,62],some ⟨3,ofL wB,1⟩),([32],some (chI 32)),([99],some (chI 99)),([97],some (chI 97)),([114],some (chI 114)),([33],some (chI 33))]:=rfl
theorem Q4i:RawOk 1 Q7a:=by
 rw [Y7w];refine ⟨fun e he=>?_,Q2a _ fun e he=>?_,?_,yX⟩
 ·simp only [aU,cL,eL] at he;rcases he with rfl | rfl | rfl | rfl | rfl | rfl | rfl | rfl | rfl | rfl | rfl | rfl | rfl | rfl | rfl | rfl | rfl | rfl | rfl
  all_goals first
   | exact ElOk.ch1 _ yX
   | exact ElOk.opn wB 1 yX yX
   | exact ElOk.cls wB 1 yX yX
 ·simp only [aU,cL,eL] at he;rcases he with rfl | rfl | rfl | rfl | rfl | rfl | rfl | rfl | rfl | rfl | rfl | rfl | rfl | rfl | rfl | rfl | rfl | rfl | rfl
  all_goals exact fun h=>by cases h
 ·show NumOk [chI 83,chI 105,chI 99,chI 104,chI 101,chI 114,chI 110,chI 46,chI 32,⟨2,ofL wB,1⟩,chI 82,chI 101,chI 100,⟨3,ofL wB,1⟩,chI 32,chI 99,chI 97,chI 114,chI 33] 0 [];simp [NumOk,chI];exact ⟨_,[],⟨rfl,rfl⟩,rfl,rfl,rfl⟩
theorem Y7x:Q2 Q5o=[83,97,118,101,46,32,60,98,62,82,101,100,60,47,98,62,32,99,97,114,33]:=yX
theorem X4a:Q2 Q7a=[83,105,99,104,101,114,110,46,32,60,98,62,82,101,100,60,47,98,62,32,99,97,114,33]:=by rw [Y7w];decide
theorem Y8k (P:Tk→Prop) (h1:∀ x:Tk,x.k=1→P x) (f:List Tk) (h:∀ y∈f,P y):∀ y∈Q4 f,P y:=by
 suffices hh:∀ (g out:List Tk),(∀ y∈g,P y)→(∀ y∈out,P y)→∀ y∈g.foldl X4 out,P y from hh f [] h (fun y hy=>by simp at hy)
 intro g;induction g with
 | nil=>intro out _ h2;exact h2
 | cons x g ih=>
   intro out hg ho;refine ih _ (fun y hy=>hg y (by simp [hy])) ?_;intro z hz;by_cases hk:x.k=1
   ·by_cases h2:x.t.size=0
    ·rw [O2 out x hk h2] at hz;exact ho z hz
    ·rcases bS out with rfl | ⟨o,y,rfl⟩
     ·rw [U2 x hk h2] at hz;rw [aJ.1 hz];exact h1 _ rfl
     ·rw [bN] at ho hz;by_cases hy:y.k=1
      ·rw [K5 o y x hk h2 hy] at hz;rcases aS.1 hz with hz | hz
       ·exact ho z (aS.2 (.inl hz))
       ·rw [aJ.1 hz];exact h1 _ rfl
      ·rw [E8 o y x hk h2 hy] at hz;rcases aS.1 hz with hz | hz
       ·exact ho z hz
       ·rw [aJ.1 hz];exact h1 _ rfl
   ·rw [D9 out x hk] at hz;rcases aS.1 hz with hz | hz
    ·exact ho z hz
    ·rw [aJ.1 hz];exact hg x yW
def Z1u:List MK:=[.blk wP (Lib.decDigits 1) Q5o]
def Q0l:List Pt:=P9 (Y8 Z1u).1 (Y8 Z1u).2
def X1q:List Pt:=Q0l.set 1 ⟨true,ofL (Lib.decDigits 1),ofL (Q2 Q7a)⟩
theorem Y7v:Q0l.length=3:=rfl
theorem U1n:Q0l[1]'yX=⟨true,ofL (Lib.decDigits 1),ofL (Q2 Q5o)⟩:=rfl
theorem V8l:∀ x∈Z1u,Y0h x:=by
 intro x hx;rw [aJ.1 hx];exact ⟨yX,yX,Q8l⟩
theorem V3k:Q0b 0 Z1u:=⟨rfl,yX,trivial⟩
theorem Z7j (us:List Un) (tl:List UInt8):Y0 (P9 us tl)=O0 us tl:=Q2k us tl
theorem Y4h:Y0 Q0l=X7 Z1u:=by
 unfold Q0l;rw [Z7j,Q6a];rfl
theorem Y4g:X7 Z1u=[60,112,62,83,97,118,101,46,32,60,98,62,82,101,100,60,47,98,62,32,99,97,114,33,60,47,112,62]:=yX
theorem X8b:Y0 X1q=[60,112,62,83,105,99,104,101,114,110,46,32,60,98,62,82,101,100,60,47,98,62,32,99,97,114,33,60,47,112,62]:=by
 show Y0 [⟨false,ofL [],ofL ([]++(60::wP++[62]))⟩,⟨true,ofL (Lib.decDigits 1),ofL (Q2 Q7a)⟩,⟨false,ofL [],ofL (G9 wP)⟩]=_;rw [X4a];decide
def U3s:List Int:=csE Q5o++[((Q2 Q5o).length:Int)]
theorem U1p:∀ p,p < 17→U3s[p]? =some ((Q2 (Z5 Q5o p)).length:Int):=yX
theorem Z1v:(X0 Q5o).length=16:=yX
theorem U1o:Y3j 0 [(0,5)] 16:=⟨yX,yX,yX,trivial⟩
theorem V3n:Rdb 1 (ofL (Q2 Q5o)) Q5o:=⟨by simp [ofL],Q8l.els,Q8l.len,by rw [Q6,Y7x];decide⟩
theorem V8n:Rdb 1 (ofL (Q2 Q7a)) Q7a:=⟨by simp [ofL],Q4i.els,Q4i.len,by rw [Q6,X4a];decide⟩
theorem Z4t (fmt:Int) (r:List UInt8) (o:Option Tk) (h:ElOk fmt r o):∀ x,o=some x→(x.k=1∨x.k=5)∨(x.k=2∨x.k=3∨x.k=4):=by
 intro x hx;cases h<;>first
  | (injection hx with hx;subst hx;simp [chI])
  | cases hx
theorem X7w (fmt:Int):∀ (ts:Els),(∀ e∈ts,ElOk fmt e.1 e.2)→∀ x∈X0 ts,(x.k=1∨x.k=5)∨(x.k=2∨x.k=3∨x.k=4)
 | [],_,x,hx=>by simp [X0] at hx
 | (r,none)::ts,h,x,hx=>X7w fmt ts (fun e he=>h e (by simp [he])) x hx
 | (r,some y)::ts,h,x,hx=>by
   rw [show X0 ((r,some y)::ts)=y::X0 ts from rfl] at hx;rcases aU.1 hx with rfl | hx
   ·exact Z4t fmt r _ (h (r,some x) yW) x rfl
   ·exact X7w fmt ts (fun e he=>h e (by simp [he])) x hx
theorem Z6e (fmt:Int) (ts:Els) (h:RawOk fmt ts):∃ n,numsG (Q4 (X0 ts)) []=Q1v n∧n≤500∧∀ x∈Q4 (X0 ts),KindT n x:=by
 obtain ⟨h1,h2,_⟩:=R1 (X0 ts) 0 [] h.num (fun y hy=>by simp at hy);refine ⟨(B6 (X0 ts) 0 []).1,by rw [Z2c];exact h1,?_,Y8k _ (fun x hx=>.inl (.inl hx)) _ fun y hy=>?_⟩
 ·have:=Q8o (X0 ts) [];have h3:=h.len;rw [show numsG (X0 ts) []=Q1v (B6 (X0 ts) 0 []).1 from h1,Q1b] at this;simp at this;omega
 ·rcases X7w fmt ts h.els y hy with hk | hk
  ·exact .inl hk
  ·exact .inr ⟨hk,h2 y hy hk⟩
theorem Z5q (ts:Els) (h:RawOk 1 ts):X9 (X0 ts)=X0 ts:=Q8i _ fun y hy=>Q3m 1 ts h.els y hy
theorem V3o (m:Int):Y0x m 1 (ofL (Y0 Q0l)) Q0l:=fun w hm=>by
 rw [Y4h];exact X5f _ Z1u m w hm (by simp [ofL]) V8l V3k (by rw [Q6,Y4g];decide)
theorem U1q (m:Int):∃ n,RplOk m 1 Q0l 1 Q5o U3s [(0,5)] [knG] n:=by
 obtain ⟨n,kn_num,hn,kn_knd⟩:=Z6e 1 Q7a Q4i;exact ⟨n,{
  fm:=.inl rfl
  len:=yX
  size:=by rw [Y4h,Y4g];decide
  spl:=V3o m
  kl:=yX
  un:=rfl
  raw:=rfl
  rsz:=by rw [Y7x];decide
  dec:=fun w hm=>Q1y _ Q5o m w hm V3n Q8l.num
  one:=Z5q Q5o Q8l
  pos:=by rw [Z1v];decide
  cut:=fun w hm=>X8f _ Q5o m w hm V3n Q8l.num
  csl:=yX
  cat:=fun p hp=>U1p p (by rw [Z1v] at hp;omega)
  rtl:=rfl
  rll:=yX
  asc:=by rw [Z1v];exact U1o
  tgn:=fun t ht=>by rw [aJ.1 ht];exact X8a
  enc:=fun t ht=>by
   rw [aJ.1 ht];exact fun A c w hm hr=>X1v knG _ m w hm hr V8k (Y0t knG Y2c)
  new:=fun w hm=>Q1y _ Q7a m w hm V8n Q4i.num
  none_:=Z5q Q7a Q4i
  npos:=Q4i.len
  nrsz:=by show (Q2 Q7a).length≤_;rw [X4a];decide
  num:=kn_num
  nle:=yY
  knd:=kn_knd
  nsz:=by
   show (Y0 X1q).length≤_;rw [X8b];decide }⟩
theorem V1e:∀ (a:Nat) (rl:List (Nat×Nat)) (n:Nat),Q9c a rl n→Y3j a rl n
 | _,[],_,_=>trivial
 | _,_::rl,n,⟨h1,h2,h3,h4⟩=>⟨h1,h2,h3,V1e _ rl n h4⟩
theorem S9:∀ (us:List Un) (tl:List UInt8),(P9 us tl).length=2 * us.length+1
 | [],_=>rfl
 | u::us,tl=>by rw [P9,aG,aG,S9 us tl,aG];omega
theorem Q4q:∀ (us:List Un) (tl:List UInt8) (j:Nat) (hj:j < us.length),(P9 us tl)[2 * j+1]? =some ⟨true,ofL us[j].key,ofL (Q2 us[j].ts)⟩
 | [],_,_,hj=>by simp at hj
 | u::us,tl,0,_=>rfl
 | u::us,tl,j+1,hj=>by
   have:=Q4q us tl j (by simpa using hj);rw [P9,show 2 * (j+1)+1=(2 * j+1)+1+1 by omega,bU,bU,this];rfl
theorem Y8z:∀ (us:List Un) (tl:List UInt8) (j:Nat) (hj:j < us.length) (ts':Els),(P9 us tl).set (2 * j+1) ⟨true,ofL us[j].key,ofL (Q2 ts')⟩=P9 (us.set j ⟨us[j].sk,us[j].key,ts'⟩) tl
 | [],_,_,hj,_=>by simp at hj
 | u::us,tl,0,_,_=>rfl
 | u::us,tl,j+1,hj,ts'=>by
   have:=Y8z us tl j (by simpa using hj) ts';rw [P9,show 2 * (j+1)+1=(2 * j+1)+1+1 by omega,List.set_cons_succ,List.set_cons_succ];have hj':j < us.length:=(by simpa using hj);have e:(u::us)[j+1]=us[j]'hj':=rfl;rw [e,this];rfl
theorem V6m:∀ (us:List Un) (tl:List UInt8) (i:Nat),D5 (P9 us tl) i=(List.range us.length).map fun (j:Nat)=>((i+(2 * j+1):Nat):Int)
 | [],_,_=>rfl
 | u::us,tl,i=>by
   rw [P9,D5,aE yW,D5,aK rfl,V6m us tl (i+1+1),aG,List.range_succ_eq_map,cA,fQ];congr 1;refine List.map_congr_left fun j _=>?_;show ((i+1+1+(2 * j+1):Nat):Int)=((i+(2 * (j+1)+1):Nat):Int);congr 1;omega
theorem DS.raws (d:DS) (h:d.Ok):∀ u∈d.un.1,RawOk d.fmt u.ts:=by
 cases d with
 | mk ms=>
   have key:∀ (ms:List MK) (st:List Un×List UInt8),(∀ x∈ms,Y0h x)→(∀ u∈st.1,RawOk 1 u.ts)→∀ u∈(ms.foldl G1 st).1,RawOk 1 u.ts:=by
    intro ms;induction ms with
    | nil=>intro st _ h;exact h
    | cons x ms ih=>
      intro st hx hs;rw [bQ];refine ih _ (fun y hy=>hx y (by simp [hy])) ?_;have h1:=hx x yW;cases x with
      | blk t key ts=>
        intro u hu;rcases aS.1 hu with hu | hu
        ·exact hs u hu
        ·rw [aJ.1 hu];exact h1.2.2
      | byte c=>exact hs
      | note=>exact hs
      | tag t=>exact hs
   exact key ms ([],[]) h.1 (fun u hu=>by simp at hu)
 | rs ls=>
   have key:∀ (ls:List RL) (st:List Un×List UInt8),(∀ x∈ls,Y0i x)→(∀ u∈st.1,RawOk 2 u.ts)→∀ u∈(ls.foldl O6 st).1,RawOk 2 u.ts:=by
    intro ls;induction ls with
    | nil=>intro st _ h;exact h
    | cons x ls ih=>
      intro st hx hs;rw [bQ];refine ih _ (fun y hy=>hx y (by simp [hy])) ?_;have h1:=hx x yW;cases x with
      | unit key ts=>
        intro u hu;rcases aS.1 hu with hu | hu
        ·exact hs u hu
        ·rw [aJ.1 hu];exact h1.2.2.2
      | skip l=>exact hs
   exact key ls ([],[]) h.1 (fun u hu=>by simp at hu)
 | sh a b rs=>
   have key:∀ (rs:List Rc) (st:List Un×List UInt8),(∀ x∈rs,RcF a b x)→(∀ u∈st.1,RawOk 3 u.ts)→∀ u∈(rs.foldl O7 st).1,RawOk 3 u.ts:=by
    intro rs;induction rs with
    | nil=>intro st _ h;exact h
    | cons x rs ih=>
      intro st hx hs;rw [bQ];refine ih _ (fun y hy=>hx y (by simp [hy])) ?_;have h1:=hx x yW;intro u hu;rcases aS.1 hu with hu | hu
      ·exact hs u hu
      ·rw [aJ.1 hu];exact h1.raw
   exact key rs ([],I6 a b) h.2.2.1 (fun u hu=>by simp at hu)
theorem U0z (us:List Un) (tl:List UInt8):Y0 (P9 us tl)=O0 us tl:=Q2k us tl
theorem Z6f (fmt:Int) (ts:Els) (h:RawOk fmt ts):X9 (X0 ts)=X0 ts:=Q8i _ fun y hy=>Q3m fmt ts h.els y hy
theorem V4t (us:List Un) (tl:List UInt8) (u:Un) (h:u∈us):(Q2 u.ts).length≤(O0 us tl).length:=by
 rw [Q6q];obtain ⟨a,b,rfl⟩:=List.append_of_mem h;rw [Q7m,show Z4 (u::b)=(u.sk++Q2 u.ts)++Z4 b from rfl];simp only [aA];omega
theorem V9m (m:Int) (d:DS) (hd:d.Ok) (hsz:d.data.length≤60000) (hul:d.un.1.length≤1000) (j:Nat) (u:Un) (hu:d.un.1[j]? =some u) (rl:List (Nat×Nat)) (tg:List (List Tk)) (ha:Q9c 0 rl (X0 u.ts).length) (hrl:rl.length≤100000)
 (ht:AllT (fun r t=>TgtOk d.fmt (((X0 u.ts).take r.2).drop r.1) t) rl tg) (hn:(Q3c (X0 u.ts) 0 rl tg).length≤500) (hlt:∀ t∈tg,X3 t≤500)
 (hnsz:(O0 (d.un.1.set j ⟨u.sk,u.key,G6 u.ts 0 rl (tg.map (tsF d.fmt))⟩) d.un.2).length≤60000):
 (∃ n,RplOk m d.fmt d.ps (2 * j+1) u.ts (Q9r u.ts) rl tg n)∧RawOk d.fmt (G6 u.ts 0 rl (tg.map (tsF d.fmt)))∧d.ps[2 * j+1]? =some ⟨true,ofL u.key,ofL (Q2 u.ts)⟩∧
   ∃ d':DS,d'.Ok∧d'.fmt=d.fmt∧d'.un=(d.un.1.set j ⟨u.sk,u.key,G6 u.ts 0 rl (tg.map (tsF d.fmt))⟩,d.un.2)∧d.ps.set (2 * j+1) ⟨true,ofL u.key,ofL (Q2 (G6 u.ts 0 rl (tg.map (tsF d.fmt))))⟩=d'.ps:=by
 obtain ⟨hj,rfl⟩:=aM.1 hu;have hf:=d.ok_fmt;have hc:=d.raws hd _ (aL hj);have hb:=V9i d.fmt hf _ hc rl tg ha ht hn;obtain ⟨d',e1,e2,e3⟩:=d.set hd j _ hu _ hb;have he:=Q4q d.un.1 d.un.2 j hj;have hg:=Y8z d.un.1 d.un.2 j hj (G6 d.un.1[j].ts 0 rl (tg.map (tsF d.fmt)));have hi:2 * j+1 < d.ps.length:=(by unfold DS.ps;rw [S9];omega);have hh:d.ps[2 * j+1]'hi=⟨true,ofL d.un.1[j].key,ofL (Q2 d.un.1[j].ts)⟩:=by
  have:=aF hi;unfold DS.ps at this;rw [he] at this;injection this with this;exact this.symm
 have hq:d.ps.set (2 * j+1) ⟨true,ofL d.un.1[j].key,ofL (Q2 (G6 d.un.1[j].ts 0 rl (tg.map (tsF d.fmt))))⟩=d'.ps:=by
  unfold DS.ps;rw [hg,e3]
 refine ⟨?_,hb,he,d',e1,e2,e3,hq⟩;have hs:(Q2 d.un.1[j].ts).length≤60000:=aP (V4t d.un.1 d.un.2 _ (aL hj)) hsz;have hm:(Q2 (G6 d.un.1[j].ts 0 rl (tg.map (tsF d.fmt)))).length≤60000:=by
  refine aP (V4t _ d.un.2 ⟨d.un.1[j].sk,d.un.1[j].key,G6 d.un.1[j].ts 0 rl (tg.map (tsF d.fmt))⟩ ?_) hnsz;exact List.mem_set yY _
 obtain ⟨n,n1,n2,n3⟩:=Z6e d.fmt _ hb;have hk:=hc.len;have hl:=Z6f _ _ hc;have ho:(Q9r d.un.1[j].ts).length=(X0 d.un.1[j].ts).length+1:=(by unfold Q9r;rw [aA,Q5h];rfl);exact ⟨n,{
  fm:=hf
  len:=by unfold DS.ps;rw [S9];omega
  size:=by rw [DS.bytes];omega
  spl:=d.spl m hd yY
  kl:=hi
  un:=by rw [hh]
  raw:=by rw [hh]
  rsz:=yY
  dec:=Q8f m d.fmt hf _ hc yY
  one:=hl
  pos:=hk
  cut:=Z7n m d.fmt hf _ hc yY
  csl:=ho
  cat:=fun p hp=>by rw [Y3q,cE,Z4e _ p hp];rfl
  rtl:=AllT.len ht
  rll:=hrl
  asc:=V1e _ _ _ ha
  tgn:=fun t h=>by obtain ⟨r,_,hr⟩:=AllT.mem ht t h;exact hr.nrm
  enc:=fun t h=>by
   obtain ⟨r,_,hr⟩:=AllT.mem ht t h;exact Z7v m d.fmt hf t (Y5l d.fmt _ hc.num yY r.1 r.2 t hr (hlt t h)) (fun e=>by rw [e] at hr;exact X5p _ t hr) (fun e=>Y3a d.fmt e _ t hr)
  new:=Q8f m d.fmt hf _ hb yY
  none_:=Z6f _ _ hb
  npos:=hb.len
  nrsz:=yY
  num:=n1
  nle:=yY
  knd:=n3
  nsz:=by
   rw [hh];show (Y0 (d.ps.set (2 * j+1) ⟨true,ofL d.un.1[j].key,ofL (Q2 (G6 d.un.1[j].ts 0 rl (tg.map (tsF d.fmt))))⟩)).length≤_;unfold DS.ps;rw [hg,U0z];omega }⟩
theorem X9f (rs:List Ru) (f:List Tk):V0x (sqF f) 0 (E5 rs f):=Y5e (sqF f) (V5s f) _ 0 0 (by rw [Q8v];exact Z4q rs f) yQ (fun j _ _ h=>yY)
theorem V1t (R:List (Bool×Bool)):∀ (l:List (Nat×Nat)) (a:Nat),V0x R a l→a≤R.length→a+l.length≤R.length∧∀ r∈l,a≤r.1∧r.1 < r.2∧r.2≤R.length
 | [],a,_,ha=>⟨ha,fun r hr=>by simp at hr⟩
 | r::l,a,h,ha=>by
   obtain ⟨h1,h2,h3,_,_,_,_,h4⟩:=h;obtain ⟨g1,g2⟩:=V1t R l r.2 h4 h3;refine ⟨by rw [aG];omega,fun x hx=>?_⟩;rcases aU.1 hx with rfl | hx
   ·exact ⟨h1,h2,h3⟩
   ·have:=g2 x hx;omega
theorem Q8s (rs:List Ru) (f:List Tk):(E5 rs f).length≤X3 f∧∀ r∈E5 rs f,r.1 < r.2∧r.2≤X3 f:=by
 have h:=V1t (sqF f) _ 0 (X9f rs f) (aO _);rw [Q8v] at h;exact ⟨yY,fun r hr=>(h.2 r hr).2⟩
structure Pc where
 pt:Nat
 lo:Nat
 hi:Nat
 src:List Tk
def pcU (k:Nat) (f:List Tk) (r:Nat×Nat):Pc:=⟨k,r.1,r.2,slI f 0 r.1 r.2⟩
def X8u (k:Nat) (f:List Tk):List Pc:=(E5 [G8] f).map (pcU k f)
def V0 (ks:List (Nat×List Tk)):List Pc:=ks.flatMap fun x=>X8u x.1 x.2
theorem V4m (k:Nat) (f:List Tk):(X8u k f).length≤X3 f:=by
 unfold X8u;rw [bA];exact (Q8s _ f).1
structure Pv where
 p:Pc
 A:Option Addr
 c:Nat
def Pv.v (y:Pv):Value:=.slice y.A y.p.src.length y.c
def pvC (y:Pv):List Value:=[.int .i64 y.p.pt,.int .i64 y.p.lo,.int .i64 y.p.hi,y.v]
theorem Y4w (y:Pv):(pvC y).length=4:=rfl
theorem V9f (y:Pv):∀ u∈pvC y,u.oneCell'=true:=by
 intro u hu;simp [pvC,Pv.v] at hu;rcases hu with rfl | rfl | rfl | rfl<;>rfl
theorem V9g:(prog.info? 56).map (fun i=>(i.zero,i.size,i.bytes))=some (some (.agg #[.int .i64 0,.int .i64 0,.int .i64 0,.slice none 0 0]),4,48):=by kernel_rfl
structure PcO (B:Nat) (w:World) (v:Value) (ps:List Pc) (ys:List Pv):Prop where
 own:OwnE 56 pvC 4 w B v ys
 eq:ys.map (·.p)=ps
 each:∀ y∈ys,OwnE 31 tkC 3 w B y.v y.p.src
section
variable {B:Nat} {w w':World} {v v':Value} {ps:List Pc} {ys:List Pv}
theorem PcO.nil:PcO B w (.slice none 0 0) [] []:=⟨OwnE.nil,rfl,fun _ h=>by simp at h⟩
theorem PcO.len (h:PcO B w v ps ys):ys.length=ps.length:=by rw [←h.eq,bA]
theorem PcO.below (h:PcO B w v ps ys) (hb:Below w.heap.size w w'):PcO B w' v ps ys:=
 ⟨Q7 h.own fun k hk=>hb.block k (h.own.lt k hk).2,h.eq,fun y hy=>Q7 (h.each y hy) fun k hk=>hb.block k ((h.each y hy).lt k hk).2⟩
theorem PcO.push (h:PcO B w v ps ys) (y:Pv) (hy:OwnE 31 tkC 3 w B y.v y.p.src) (ho:OwnE 56 pvC 4 w' B v' (ys++[y])) (hg:w.grownBy w' v.ownBlock):PcO B w' v' (ps++[y.p]) (ys++[y]):=by
 have keep:∀ z:Pv,OwnE 31 tkC 3 w B z.v z.p.src→OwnE 31 tkC 3 w' B z.v z.p.src:=fun z hz=>Q7 hz fun k hk=>hg.block k (hz.lt k hk).2 (fun e=>by
  obtain ⟨cur,hc⟩:=P3 h.own e.symm;exact Y1 hz hc yX k hk rfl)
 refine ⟨ho,by rw [cP,h.eq];rfl,fun z hz=>?_⟩;rcases aS.1 hz with hz | hz
 ·exact keep z (h.each z hz)
 ·rw [aJ.1 hz];exact keep y hy
end
def RdPc (w:World) (v:Value) (ps:List Pc):Prop:=∃ ys:List Pv,RdE pvC 4 w v ys∧ys.map (·.p)=ps∧∀ y∈ys,RdT w y.v y.p.src
theorem PcO.rd {B:Nat} {w:World} {v:Value} {ps:List Pc} {ys:List Pv} (h:PcO B w v ps ys):RdPc w v ps:=⟨ys,h.own.rd Y4w,h.eq,fun y hy=>(h.each y hy).rd Q5⟩
theorem RdPc.below {w w':World} {v:Value} {ps:List Pc} (h:RdPc w v ps) (hb:Below w.heap.size w w'):RdPc w' v ps:=by
 obtain ⟨ys,h1,h2,h3⟩:=h;exact ⟨ys,h1.below hb yQ,h2,fun y hy=>(h3 y hy).below hb yQ⟩
theorem RdPc.shape {w:World} {v:Value} {ps:List Pc} (h:RdPc w v ps):∃ A c,v=.slice A ps.length c∧ps.length≤c:=by
 obtain ⟨ys,h1,h2,h3⟩:=h;obtain ⟨A,c,hv,hc,_⟩:=h1.shape;have:ys.length=ps.length:=(by rw [←h2,bA]);rw [this] at hv hc;exact ⟨A,c,hv,hc⟩
theorem RdPc.at_ {w:World} {A:Option Addr} {n c:Nat} {ps:List Pc} (h:RdPc w (.slice A n c) ps) (k:Nat) (hk:k < ps.length):
 ∃ b o A' c',A=some ⟨b,o,none⟩∧b < w.heap.size∧w.cell? ⟨b,o+k * 4,none⟩=some (.int .i64 ps[k].pt)∧w.cell? ⟨b,o+k * 4+1,none⟩=some (.int .i64 ps[k].lo)∧w.cell? ⟨b,o+k * 4+2,none⟩=some (.int .i64 ps[k].hi)∧w.cell? ⟨b,o+k * 4+3,none⟩=some (.slice A' ps[k].src.length c')∧RdT w (.slice A' ps[k].src.length c') ps[k].src:=by
 obtain ⟨ys,h1,h2,h3⟩:=h;subst h2;rw [bA] at hk;obtain ⟨b,o,hA,hb,hx⟩:=RdE.cells h1 yY;have hy:=aF hk;have e:(ys.map (·.p))[k]'(by rw [bA];exact hk)=ys[k].p:=eS _;rw [e];exact ⟨b,o,_,_,hA,hb,hx k _ 0 _ hy rfl,hx k _ 1 _ hy rfl,hx k _ 2 _ hy rfl,hx k _ 3 _ hy rfl,h3 _ (aL hk)⟩
structure UnOk (m fmt:Int) (ps:List Pt) (ks:List (Nat×List Tk)):Prop where
 ok:D1 fmt
 idx:D5 ps 0=ks.map fun x=>(x.1:Int)
 each:∀ x∈ks,∃ h:x.1 < ps.length,ps[x.1].un=true∧Y0w m fmt ps[x.1].raw x.2∧X3 x.2≤1000∧x.2.length≤1000
 len:ps.length≤1000
theorem V6n {m fmt:Int} {ps:List Pt} {ks:List (Nat×List Tk)} (h:UnOk m fmt ps ks):ks.length≤1000:=by
 have h1:=Q5z ps 0;rw [h.idx,bA] at h1;exact aP h1 h.len
theorem X1z {m fmt:Int} {ps:List Pt} {ks:List (Nat×List Tk)} (h:UnOk m fmt ps ks):∀ k,(V0 (ks.take k)).length≤1000 * k
 | 0=>by simp [V0]
 | k+1=>by
   have ih:=X1z h k;by_cases hk:k < ks.length
   ·have e:V0 (ks.take k++[ks[k]])=V0 (ks.take k)++X8u ks[k].1 ks[k].2:=(by unfold V0;rw [dE];simp);rw [aH hk,e,aA];have h2:=V4m ks[k].1 ks[k].2;obtain ⟨_,_,_,h3,_⟩:=h.each ks[k] (aL hk);omega
   ·rw [bP yY];rw [bP yY] at ih;omega
def V4 (k:Nat):List Pc→List (Nat×Nat)
 | []=>[]
 | p::l=>if p.pt=k then (p.lo,p.hi)::V4 k l else V4 k l
def K7 (k:Nat):List Pc→List (List Tk)→List (List Tk)
 | p::l,t::T=>if p.pt=k then t::K7 k l T else K7 k l T
 | _,_=>[]
theorem Q2h (k:Nat):∀ (a b:List Pc),V4 k (a++b)=V4 k a++V4 k b
 | [],b=>rfl
 | p::a,b=>by
   rw [aR,V4,V4,Q2h k a b];split<;>rfl
theorem X4g (k:Nat):∀ (a:List Pc) (A:List (List Tk)) (b:List Pc) (B:List (List Tk)),a.length=A.length→K7 k (a++b) (A++B)=K7 k a A++K7 k b B
 | [],[],b,B,_=>rfl
 | p::a,t::A,b,B,h=>by
   rw [aR,aR,K7,K7,X4g k a A b B (by simpa using h)];split<;>rfl
theorem Z2h (k:Nat) (l:List Pc) (i:Nat) (h:i < l.length):V4 k (l.take (i+1))=if l[i].pt=k then V4 k (l.take i)++[(l[i].lo,l[i].hi)] else V4 k (l.take i):=by
 rw [aH h,Q2h];by_cases hk:l[i].pt=k
 ·rw [aK hk];simp [V4,hk]
 ·rw [aE hk];simp [V4,hk]
theorem Z2i (k:Nat) (l:List Pc) (T:List (List Tk)) (i:Nat) (h:i < l.length) (hT:i < T.length):K7 k (l.take (i+1)) (T.take (i+1))=if l[i].pt=k then K7 k (l.take i) (T.take i)++[T[i]] else K7 k (l.take i) (T.take i):=by
 rw [aH h,aH hT,X4g k _ _ _ _ yV];by_cases hk:l[i].pt=k
 ·rw [aK hk];simp [K7,hk]
 ·rw [aE hk];simp [K7,hk]
theorem Y2g (k:Nat):∀ l:List Pc,(V4 k l).length≤l.length
 | []=>yQ
 | p::l=>by
   have:=Y2g k l;rw [V4];split
   ·simp;omega
   ·simp;omega
theorem Y8s (k:Nat):∀ (l:List Pc) (T:List (List Tk)),l.length=T.length→(K7 k l T).length=(V4 k l).length
 | [],[],_=>rfl
 | p::l,t::T,h=>by
   have:=Y8s k l T (by simpa using h);rw [V4,K7];split
   ·simp [this]
   ·exact this
def AllP (P:Pc→List Tk→Prop):List Pc→List (List Tk)→Prop
 | [],[]=>True
 | p::l,t::T=>P p t∧AllP P l T
 | _,_=>False
theorem AllP.len {P:Pc→List Tk→Prop}:∀ {l:List Pc} {T:List (List Tk)},AllP P l T→l.length=T.length
 | [],[],_=>rfl
 | _::_,_::_,h=>by rw [aG,aG,AllP.len h.2]
theorem AllP.map {P:Pc→List Tk→Prop} (g:Pc→List Tk):∀ (l:List Pc),(∀ p∈l,P p (g p))→AllP P l (l.map g)
 | [],_=>trivial
 | p::l,h=>⟨h p yW,AllP.map g l fun x hx=>h x (by simp [hx])⟩
theorem AllP.pick {P:Pc→List Tk→Prop} (k:Nat):∀ {l:List Pc} {T:List (List Tk)},AllP P l T→AllT (fun r t=>∃ p,p∈l∧p.pt=k∧r=(p.lo,p.hi)∧P p t) (V4 k l) (K7 k l T)
 | [],[],_=>trivial
 | p::l,t::T,h=>by
   have ih:=AllT.imp (Q:=fun r t=>∃ q,q∈p::l∧q.pt=k∧r=(q.lo,q.hi)∧P q t) (fun r t ⟨q,h1,h2⟩=>⟨q,by simp [h1],h2⟩) (AllP.pick k h.2);rw [V4,K7];by_cases hk:p.pt=k
   ·rw [aK hk,aK hk];exact ⟨⟨p,by simp,hk,rfl,h.1⟩,ih⟩
   ·rw [aE hk,aE hk];exact ih
theorem Q7i (k k':Nat) (h:k'≠k) (f:List Tk):∀ (rl:List (Nat×Nat)),V4 k (rl.map (pcU k' f))=[]
 | []=>rfl
 | r::rl=>by
   rw [cA,V4,aE (show ¬ (pcU k' f r).pt=k from h),Q7i k k' h f rl]
theorem X8v (k:Nat) (f:List Tk):∀ (rl:List (Nat×Nat)),V4 k (rl.map (pcU k f))=rl
 | []=>rfl
 | r::rl=>by
   rw [cA,V4,aK (show (pcU k f r).pt=k from rfl),X8v k f rl];rfl
def ksU:List Un→Nat→List (Nat×List Tk)
 | [],_=>[]
 | u::us,i=>(2 * i+1,Q4 (X0 u.ts))::ksU us (i+1)
theorem V8o:∀ (us:List Un) (i:Nat),(ksU us i).length=us.length
 | [],_=>rfl
 | u::us,i=>by rw [ksU,aG,V8o us,aG]
theorem Z5r:∀ (us:List Un) (i j:Nat) (x:Nat×List Tk),(ksU us i)[j]? =some x→∃ u,us[j]? =some u∧x=(2 * (i+j)+1,Q4 (X0 u.ts))
 | [],_,_,_,h=>by simp [ksU] at h
 | u::us,i,0,x,h=>by
   injection h with h;exact ⟨u,rfl,h.symm⟩
 | u::us,i,j+1,x,h=>by
   obtain ⟨u',h1,h2⟩:=Z5r us (i+1) j x h;exact ⟨u',h1,by rw [h2,show i+1+j=i+(j+1) by omega]⟩
theorem Y4i (us:List Un) (i:Nat) (x:Nat×List Tk) (h:x∈ksU us i):∃ j u,us[j]? =some u∧x=(2 * (i+j)+1,Q4 (X0 u.ts)):=by
 obtain ⟨j,hj⟩:=fT.1 h;obtain ⟨u,h1,h2⟩:=Z5r us i j x hj;exact ⟨j,u,h1,h2⟩
theorem Q4p (x:Nat×List Tk) (ks:List (Nat×List Tk)):V0 (x::ks)=X8u x.1 x.2++V0 ks:=rfl
theorem Y4t:∀ (us:List Un) (i j:Nat) (u:Un),us[j]? =some u→V4 (2 * (i+j)+1) (V0 (ksU us i))=E5 [G8] (Q4 (X0 u.ts))
 | [],_,_,_,h=>by simp at h
 | v::us,i,0,u,h=>by
   injection h with h;subst h;rw [ksU,Q4p,Q2h];have ha:∀ (us:List Un) (i':Nat),i < i'→V4 (2 * (i+0)+1) (V0 (ksU us i'))=[]:=by
    intro us;induction us with
    | nil=>intro _ _;rfl
    | cons v us ih=>
      intro i' hi;rw [ksU,Q4p,Q2h,ih (i'+1) yY,aX];exact Q7i _ _ (by show 2 * i'+1≠_;omega) _ _
   rw [ha us (i+1) yY,aX];exact X8v _ _ _
 | v::us,i,j+1,u,h=>by
   have ih:=Y4t us (i+1) j u h;rw [ksU,Q4p,Q2h,show 2 * (i+(j+1))+1=2 * (i+1+j)+1 by omega,ih];rw [show V4 (2 * (i+1+j)+1) (X8u (2 * i+1,Q4 (X0 v.ts)).1 (2 * i+1,Q4 (X0 v.ts)).2)=[] from Q7i _ _ (by show 2 * i+1≠_;omega) _ _];rfl
theorem Y4s (us:List Un) (i:Nat) (p:Pc) (h:p∈V0 (ksU us i)):∃ j u r,us[j]? =some u∧r∈E5 [G8] (Q4 (X0 u.ts))∧p=pcU (2 * (i+j)+1) (Q4 (X0 u.ts)) r:=by
 obtain ⟨x,hx,hp⟩:=dA.1 h;obtain ⟨j,u,h1,h2⟩:=Y4i us i x hx;subst h2;obtain ⟨r,hr,hp⟩:=cF.1 hp;exact ⟨j,u,r,h1,hr,hp.symm⟩
def Z0t (m fmt:Int) (l:List Pc) (T:List (List Tk)):List Nat→List Pt→List Pt→Prop
 | [],ps,pe=>ps=pe
 | k::K,ps,pe=>∃ ts cs n,∃ h:RplOk m fmt ps k ts cs (V4 k l) (K7 k l T) n,Z0t m fmt l T K (ps.set k ⟨true,(ps[k]'h.kl).key,ofL (Q2 (G6 ts 0 (V4 k l) ((K7 k l T).map (tsF fmt))))⟩) pe
def Q7t (fmt:Int) (l:List Pc) (T:List (List Tk)) (j:Nat) (u:Un):Un:=⟨u.sk,u.key,G6 u.ts 0 (V4 (2 * j+1) l) ((K7 (2 * j+1) l T).map (tsF fmt))⟩
def R6 (fmt:Int) (l:List Pc) (T:List (List Tk)):Nat→List Un→List Un
 | _,[]=>[]
 | j,u::us=>Q7t fmt l T j u::R6 fmt l T (j+1) us
theorem X4l (fmt:Int) (l:List Pc) (T:List (List Tk)):∀ (us:List Un) (j:Nat),(R6 fmt l T j us).length=us.length
 | [],_=>rfl
 | u::us,j=>by rw [R6,aG,X4l fmt l T us,aG]
theorem X4k (fmt:Int) (l:List Pc) (T:List (List Tk)):∀ (us:List Un) (j i:Nat) (u:Un),us[i]? =some u→(R6 fmt l T j us)[i]? =some (Q7t fmt l T (j+i) u)
 | [],_,_,_,h=>by simp at h
 | v::us,j,0,u,h=>by
   injection h with h;subst h;rfl
 | v::us,j,i+1,u,h=>by
   have:=X4k fmt l T us (j+1) i u h;rw [R6,bU,this,show j+1+i=j+(i+1) by omega]
structure UnitT (fmt:Int) (u:Un) (rl:List (Nat×Nat)) (tg:List (List Tk)):Prop where
 asc:Q9c 0 rl (X0 u.ts).length
 rll:rl.length≤100000
 all:AllT (fun r t=>TgtOk fmt (((X0 u.ts).take r.2).drop r.1) t) rl tg
 len:(Q3c (X0 u.ts) 0 rl tg).length≤500
 tl:∀ t∈tg,X3 t≤500
 gro:(Q2 (G6 u.ts 0 rl (tg.map (tsF fmt)))).length≤(Q2 u.ts).length+11600
theorem Y1q (u u':Un) (hs:u'.sk=u.sk) (b:List Un) (tl:List UInt8):∀ a:List Un,(O0 (a++u'::b) tl).length+(Q2 u.ts).length=(O0 (a++u::b) tl).length+(Q2 u'.ts).length
 | []=>by
   rw [bJ,bJ,O0,O0,hs];simp only [aA];omega
 | x::a=>by
   have ih:=Y1q u u' hs b tl a;rw [aR,aR,O0,O0];simp only [aA] at ih ⊢;omega
theorem V6c (m fmt:Int) (tl:List UInt8) (l:List Pc) (T:List (List Tk)):∀ (us dn:List Un) (d:DS),d.Ok→d.fmt=fmt→d.un=(dn++us,tl)→dn.length+us.length≤4→(O0 (dn++us) tl).length+11600 * us.length≤60000→
 (∀ j u,us[j]? =some u→UnitT fmt u (V4 (2 * (dn.length+j)+1) l) (K7 (2 * (dn.length+j)+1) l T))→
 Z0t m fmt l T ((List.range us.length).map fun (j:Nat)=>2 * (dn.length+j)+1) d.ps (P9 (dn++R6 fmt l T dn.length us) tl)∧∃ d':DS,d'.Ok∧d'.fmt=fmt∧d'.un=(dn++R6 fmt l T dn.length us,tl)
 | [],dn,d,h1,h2,h3,_,_,_=>by
   refine ⟨?_,d,h1,h2,h3⟩;show d.ps=_;unfold DS.ps;rw [h3];rfl
 | u::us,dn,d,h1,h2,h3,h4,h5,h6=>by
   subst h2;have hu:=h6 0 u rfl;simp only [cV] at hu;have ha:(dn++u::us).set dn.length (Q7t d.fmt l T dn.length u)=dn++Q7t d.fmt l T dn.length u::us:=Z6p _ _ _ _;have hh:=Y1q u (Q7t d.fmt l T dn.length u) rfl us tl dn;have he:(Q2 (Q7t d.fmt l T dn.length u).ts).length≤(Q2 u.ts).length+11600:=hu.gro;rw [aG] at h5;rw [aG] at h4;have hg:d.un.1.length≤1000:=(by rw [h3];simp;omega);have hc:d.un.1[dn.length]? =some u:=by
    rw [h3];show (dn++u::us)[dn.length]? =_;rw [bF yQ,cZ];rfl
   obtain ⟨⟨n,hr⟩,_,hf,d',e1,e2,e3,e4⟩:=V9m m d h1 (by unfold DS.data;rw [h3];show (O0 (dn++u::us) tl).length≤_;omega) hg dn.length u hc _ _ hu.asc hu.rll hu.all hu.len hu.tl (by
    rw [h3];show (O0 ((dn++u::us).set dn.length (Q7t d.fmt l T dn.length u)) tl).length≤_;rw [ha];omega)
   have e3':d'.un=((dn++[Q7t d.fmt l T dn.length u])++us,tl):=by
    rw [e3,h3];show ((dn++u::us).set dn.length (Q7t d.fmt l T dn.length u),tl)=_;rw [ha,aZ];rfl
   have hb:(dn++[Q7t d.fmt l T dn.length u]).length=dn.length+1:=yW;obtain ⟨g1,g2⟩:=V6c m d.fmt tl l T us (dn++[Q7t d.fmt l T dn.length u]) d' e1 e2 e3' (by rw [hb];omega) (by
    rw [aZ];show (O0 (dn++Q7t d.fmt l T dn.length u::us) tl).length+_≤_;omega) (fun j x hx=>by
    have:=h6 (j+1) x hx;rw [hb,show dn.length+1+j=dn.length+(j+1) by omega];exact this)
   rw [hb] at g1 g2;have el:(dn++[Q7t d.fmt l T dn.length u])++R6 d.fmt l T (dn.length+1) us=dn++R6 d.fmt l T dn.length (u::us):=(by rw [aZ];rfl);rw [el] at g1 g2;refine ⟨?_,g2⟩;rw [aG,List.range_succ_eq_map,cA,fQ];refine ⟨u.ts,Q9r u.ts,n,hr,?_⟩;show Z0t m d.fmt l T _ (d.ps.set (2 * dn.length+1) ⟨true,(d.ps[2 * dn.length+1]'hr.kl).key,ofL (Q2 (G6 u.ts 0 (V4 (2 * dn.length+1) l) ((K7 (2 * dn.length+1) l T).map (tsF d.fmt))))⟩) _;have hd:(d.ps[2 * dn.length+1]'hr.kl).key=ofL u.key:=by
    have:=aF hr.kl;rw [hf] at this;injection this with this;rw [←this]
   rw [hd,e4];have em:((fun (j:Nat)=>2 * (dn.length+j)+1)∘Nat.succ)=fun (j:Nat)=>2 * (dn.length+1+j)+1:=by
    funext j;show 2 * (dn.length+(j+1))+1=_;omega
   rw [em];exact g1
def ntx (u:List Tk):Nat:=(u.filter fun x=>decide (x.k≠1)).length
theorem Q0v (a b:List Tk):ntx (a++b)=ntx a+ntx b:=by unfold ntx;rw [List.filter_append,aA]
theorem Y4p:∀ f:List Tk,ntx (X9 f)≤f.length
 | []=>yQ
 | x::f=>by
   have ih:=Y4p f;rw [Q0h,Q0v,aG];have h1:ntx (P8 x)≤1:=by
    unfold P8;split
    ·unfold ntx;have:(x.t.data.toList.map chI).filter (fun x=>decide (x.k≠1))=[]:=by
      rw [List.filter_eq_nil_iff];intro y hy;obtain ⟨c,_,rfl⟩:=cF.1 hy;simp [chI]
     rw [this];exact aO _
    ·exact List.length_filter_le _ _
   omega
theorem Q6r (fmt:Int) (c:UInt8):(V6 fmt (chI c)).length≤5:=by
 rw [X5z];exact X1d fmt c
theorem V7o (fmt:Int) (L:List Int) (x:Tk) (N:Nat) (ho:One x) (hx:x.t.size≤64):(Q2 (elS fmt L x N).1).length≤(if x.k=1 then 9 else 340):=by
 have h1:=Q0w fmt L [x] N (fun y hy=>by rw [aJ.1 hy];exact hx);have h2:Q2 (V1 fmt L [x] N).1=Q2 (elS fmt L x N).1:=(by simp [V1]);rw [h2] at h1;by_cases hk:x.k=1
 ·rw [aK hk];obtain ⟨c,rfl⟩:=ho hk;have he:=Q6r fmt c;by_cases h0:Q8 L N 3=0
  ·rw [(X1a fmt L (chI c) N h0).1];unfold P5;have hb:(Y0k.getD (Q8 L (N+1) 3).toNat []).length≤2:=by
    have:=X5 L (N+1) 3 yX;rcases (show Q8 L (N+1) 3=0∨Q8 L (N+1) 3=1∨Q8 L (N+1) 3=2 by omega) with e | e | e<;>rw [e]<;>decide
   split
   ·show (4:Nat)≤9;decide
   ·split
    ·show (4:Nat)≤9;decide
    ·split
     ·show (2:Nat)≤9;decide
     ·split
      ·simp only [aA,aG];omega
      ·show (V6 fmt (chI c)).length≤9;omega
  ·rw [(X3n fmt L (chI c) N h0).1];omega
 ·rw [aE hk];simpa using h1
theorem X9g (fmt:Int) (L:List Int):∀ (u:List Tk) (N:Nat),(∀ x∈u,One x∧x.t.size≤64)→(Q2 (V1 fmt L u N).1).length≤9 * u.length+340 * ntx u
 | [],_,_=>by simp [V1,Q2]
 | x::u,N,h=>by
   have ih:=X9g fmt L u (elS fmt L x N).2 fun y hy=>h y (by simp [hy]);have h1:=V7o fmt L x N (h x yW).1 (h x yW).2;have h2:ntx (x::u)=(if x.k=1 then 0 else 1)+ntx u:=by
    unfold ntx;by_cases hk:x.k=1
    ·rw [List.filter_cons_of_neg (by simp [hk]),aK hk,bI]
    ·rw [List.filter_cons_of_pos (by simp [hk]),aE hk,aG];omega
   rw [V1,F9,aA,aG,h2];split at h1
   ·rename_i hk;rw [aK hk];omega
   ·rename_i hk;rw [aE hk];omega
theorem V2v (fmt:Int) (hf:D1 fmt) (L:List Int) (N:Nat):FOkW fmt (U8 (decide (fmt=1)) L N ((5:Nat):Int)).1:=by
 obtain ⟨h1,h2,h3,h4,h5,h6⟩:=Q6w (decide (fmt=1)) L N 5 yX;refine ⟨h1,h2,fun ha=>?_,h3,h4,h5⟩;have e:decide (fmt=1)=false:=(by simpa using ha);rw [e];exact (X5d L N 5 yX).2.1
theorem X3c (fmt:Int) (hf:D1 fmt) (L:List Int) (N:Nat):(Q2 (J9 fmt L N).1).length≤6880∧(X0 (J9 fmt L N).1).length≤160∧ntx (X0 (J9 fmt L N).1)≤16:=by
 have hF:=V2v fmt hf L N;obtain ⟨_,h2,_⟩:=W9 fmt hf L N;have h3:(Q2 (J9 fmt L N).1).length≤9 * (X9 (U8 (decide (fmt=1)) L N ((5:Nat):Int)).1).length+340 * ntx (X9 (U8 (decide (fmt=1)) L N ((5:Nat):Int)).1):=
  X9g fmt L _ _ fun x hx=>⟨C8 _ x hx,(hF.one x hx).2.2.2.2.2⟩
 have h4:=Y4p (U8 (decide (fmt=1)) L N ((5:Nat):Int)).1;have h5:=hF.len;have h6:=hF.li;rw [D2] at h3;rw [h2,D2];exact ⟨yY,h6,yY⟩
/-! ### The document -/
theorem Q4g:∀ (a b:List MK) (k:Nat),Q0b k a→Q0b (k+E6 a) b→Q0b k (a++b)
 | [],b,k,_,h=>h
 | .blk _ _ _::a,b,k,h1,h2=>⟨h1.1,h1.2.1,Q4g a b (k+1) h1.2.2 (by rw [show k+1+E6 a=k+(E6 a+1) by omega];exact h2)⟩
 | .byte _::a,b,k,h1,h2=>Q4g a b k h1 h2
 | .note::a,b,k,h1,h2=>Q4g a b k h1 h2
 | .tag _::a,b,k,h1,h2=>Q4g a b k h1 h2
theorem Q2x:∀ (a:List MK) (k:Nat),(∀ m∈a,∀ t key ts,m≠.blk t key ts)→Q0b k a∧E6 a=0
 | [],_,_=>⟨trivial,rfl⟩
 | .blk t key ts::a,k,h=>absurd rfl (h _ yW t key ts)
 | .byte _::a,k,h=>Q2x a k fun m hm=>h m (by simp [hm])
 | .note::a,k,h=>Q2x a k fun m hm=>h m (by simp [hm])
 | .tag _::a,k,h=>Q2x a k fun m hm=>h m (by simp [hm])
theorem Y3t (k:Nat) (h:k < 10):I9 k=Lib.decDigits k:=(Lib.decDigits_one h).symm
theorem Y8i (L:List Int):∀ (i k:Nat) (ms:List MK) (N:Nat),k+i≤8→Q0b 0 ms→E6 ms=k→Q0b 0 (Q9x L i k ms N).1∧E6 (Q9x L i k ms N).1=k+i
 | 0,k,ms,N,_,h1,h2=>⟨h1,h2⟩
 | i+1,k,ms,N,hk,h1,h2=>by
   rw [Q9x];generalize J9 1 L N=u;have ha:=X5 L (u.2+2) 3 yX;obtain ⟨s1,s2⟩:=Q2x (Q7y.getD (Q8 L (u.2+2) 3).toNat []) (k+1) (fun m hm=>(Y5i _ yY m hm).2);have hK:Q0b 0 (ms++(.blk (Q3n.getD (Q8 L u.2 3).toNat []++Q3z.getD (Q8 L (u.2+1) 2).toNat []) (I9 (k+1)) u.1::Q7y.getD (Q8 L (u.2+2) 3).toNat [])):=by
    refine Q4g ms _ 0 h1 ?_;rw [bI,h2];exact ⟨Y3t _ yY,yY,s1⟩
   obtain ⟨r1,r2⟩:=Y8i L i (k+1) _ (u.2+3) yY hK (by
    rw [Q4a,h2];show k+(E6 (Q7y.getD (Q8 L (u.2+2) 3).toNat [])+1)=k+1;rw [s2])
   exact ⟨r1,by rw [r2];omega⟩
theorem Y2x (L:List Int) (h:Nat):∀ (i k:Nat) (rs:List Rc) (N:Nat),k+i≤8→rs.length=k→(∀ j r,rs[j]? =some r→r.key=Lib.decDigits (j+1))→(∀ j r,(X0h L h i k rs N).1[j]? =some r→r.key=Lib.decDigits (j+1))∧(X0h L h i k rs N).1.length=k+i
 | 0,k,rs,N,_,h2,h1=>⟨h1,h2⟩
 | i+1,k,rs,N,hk,h2,h1=>by
   rw [X0h];generalize J9 3 L N=u;obtain ⟨r1,r2⟩:=Y2x L h i (k+1) (rs++[⟨rcA.getD h [],I9 (k+1),u.1,rcB.getD h []⟩]) u.2 yY (by simp [h2]) (fun j r hj=>by
    by_cases hjl:j < rs.length
    ·rw [dJ hjl] at hj;exact h1 j r hj
    ·rw [bF yY] at hj;obtain ⟨hz,hv⟩:=aM.1 hj;simp at hz;have ha:j=k:=yY;subst ha;simp at hv;rw [←hv];exact Y3t _ yY)
   exact ⟨r1,by rw [r2];omega⟩
theorem V8a (h:Nat) (hh:h < 3):(hdA.getD h []).length=(rcA.getD h []).length∧(hdB.getD h []).length=(rcB.getD h []).length∧(hdA.getD h []).length+1+(hdB.getD h []).length≤90:=by
 rcases (show h=0∨h=1∨h=2 by omega) with rfl | rfl | rfl<;>exact ⟨rfl,rfl,yX⟩
theorem U3o (h:Nat) (hh:h < 3):(∀ f∈hdA.getD h [],Q6l f∧Q4r f≠C7)∧(∀ f∈hdB.getD h [],Q6l f∧Q4r f≠C7)∧(∀ f∈rcA.getD h [],Q6l f)∧(∀ f∈rcB.getD h [],Q6l f):=by
 rcases (show h=0∨h=1∨h=2 by omega) with rfl | rfl | rfl
 ·exact ⟨fun f hf=>by simp [hdA] at hf,fun f hf=>by simp [hdB] at hf,fun f hf=>by simp [rcA] at hf,fun f hf=>by simp [rcB] at hf⟩
 ·refine ⟨fun f hf=>?_,fun f hf=>by simp [hdB] at hf,fun f hf=>?_,fun f hf=>by simp [rcB] at hf⟩
  ·have:f=.bare [105,100]:=(by simpa [hdA] using hf);rw [this];exact ⟨by show ∀ c∈([105,100]:List UInt8),_;decide,yX⟩
  ·have:f=.bare [55]:=(by simpa [rcA] using hf);rw [this];show ∀ c∈([55]:List UInt8),_;decide
 ·refine ⟨fun f hf=>?_,fun f hf=>?_,fun f hf=>?_,fun f hf=>?_⟩
  ·have:f=.quo [97,44,98]:=(by simpa [hdA] using hf);rw [this];exact ⟨by show ∀ c∈([97,44,98]:List UInt8),_;decide,yX⟩
  ·have:f=.bare [99]:=(by simpa [hdB] using hf);rw [this];exact ⟨by show ∀ c∈([99]:List UInt8),_;decide,yX⟩
  ·have:f=.bare [120]:=(by simpa [rcA] using hf);rw [this];show ∀ c∈([120]:List UInt8),_;decide
  ·have:f=.quo [121]:=(by simpa [rcB] using hf);rw [this];show ∀ c∈([121]:List UInt8),_;decide
def F8 (L:List Int) (N n:Nat) (fmt:Int):DS:=
 let h:=(Q8 L N 3).toNat
 let m:=(Q8 L (N+1) ((n:Int)+1)).toNat
 if fmt=1 then .mk (Q9x L m 0 (X0d.getD h []) (N+2)).1
 else if fmt=2 then .rs (X4m L m (Q9f.getD h []) (N+2)).1
 else .sh (hdA.getD h []) (hdB.getD h []) (X0h L h m 0 [] (N+2)).1
theorem V3j (i:Nat) (h:i≤8):(X7z i).Nodup:=by
 rcases (show i=0∨i=1∨i=2∨i=3∨i=4∨i=5∨i=6∨i=7∨i=8 by omega) with rfl | rfl | rfl | rfl | rfl | rfl | rfl | rfl | rfl<;>decide
theorem X3y:∀ i:Nat,(X7z i).length=i
 | 0=>rfl
 | i+1=>by rw [X7z,aG,X3y i]
theorem Y8f (L:List Int) (N n:Nat) (hn:n≤3) (fmt:Int) (hf:D1 fmt):(F8 L N n fmt).Ok∧(F8 L N n fmt).fmt=fmt∧(F8 L N n fmt).un.1.length≤3:=by
 have ha:=X5 L N 3 yX;have hb:=X5 L (N+1) ((n:Int)+1) yY;have hh:(Q8 L N 3).toNat < 3:=yY;have hm:(Q8 L (N+1) ((n:Int)+1)).toNat≤3:=yY;unfold F8;generalize (Q8 L N 3).toNat=h at hh;generalize (Q8 L (N+1) ((n:Int)+1)).toNat=m at hm;rcases hf with rfl | rfl | rfl
 ·simp only [aK];obtain ⟨p1,p2⟩:=Q2x (X0d.getD h []) 0 (fun x hx=>(Y4v h hh x hx).2);obtain ⟨k1,k2⟩:=Y8i L m 0 (X0d.getD h []) (N+2) yY p1 p2;obtain ⟨k3,_⟩:=Z5v L m 0 (X0d.getD h []) (N+2) (fun x hx=>(Y4v h hh x hx).1);refine ⟨⟨k3,k1⟩,rfl,?_⟩;show (Y8 _).1.length≤3;rw [R7,k2];omega
 ·rw [aE yX,aK rfl];obtain ⟨s1,s2⟩:=Z6c h hh;obtain ⟨k1,k2,_⟩:=Z6k L m (Q9f.getD h []) (N+2) yY s1;rw [s2,bJ] at k2;refine ⟨⟨k1,by rw [k2];exact V3j m yY,by rw [k2,X3y];omega⟩,rfl,?_⟩;show (Y4 _).1.length≤3;rw [Q0r,k2,X3y];exact hm
 ·rw [aE yX,aE yX];obtain ⟨a1,a2,a3⟩:=V8a h hh;obtain ⟨b1,b2,b3,b4⟩:=U3o h hh;obtain ⟨k1,k2⟩:=Y2x L h m 0 [] (N+2) yY rfl (fun j r hj=>by simp at hj);obtain ⟨k3,_⟩:=Z6r L h m 0 [] (N+2) (fun r hr=>by simp at hr);refine ⟨⟨b1,b2,fun r hr=>?_,k1,by rw [k2];omega,a3⟩,rfl,?_⟩
  ·obtain ⟨e1,e2,e3⟩:=k3 r hr;exact ⟨by rw [e1,a1],by rw [e2,a2],by rw [e1];exact b3,by rw [e2];exact b4,e3⟩
  ·show (Z6 _ _ _).1.length≤3;rw [Q2o,k2];omega
def stB (c:UInt8):Bool:=c==46 || c==33
theorem V5v (n:Nat) (h:n < 256):Q7x n=true→stB (UInt8.ofNat n)=true:=by
 intro hs;have h2:n=46∨n=33:=by
  unfold Q7x Z7r V6s noP at hs;simp at hs;omega
 rcases h2 with rfl | rfl<;>rfl
theorem V5w (s:fY) (h:Q0x [⟨Q7x,1,false⟩] s=true):∃ m,s.size=m+1∧Q7x (bt s m)=true:=by
 unfold Q0x N2 N2 at h;cases hn:s.size with
 | zero=>
   rw [hn,Y5y] at h;simp at h
 | succ m=>
   rw [hn,Z4d] at h;refine ⟨m,rfl,?_⟩;simp [Q6m] at h;exact h
theorem X7e (l:List UInt8) (P:Nat→Bool) (h:∀ k,k < l.length+1→P k=true→0 < k∧stB (l.getD (k - 1) 0)=true):∀ n,n≤l.length+1→((List.range n).filter P).length≤(l.take (n - 1)).countP stB
 | 0,_=>by simp
 | n+1,hn=>by
   have ih:=X7e l P h n yY;rw [List.range_succ,List.filter_append,aA,fM];cases hp:P n with
   | false=>
     have e:([n].filter P).length=0:=(by simp [hp]);have:=List.Sublist.countP_le (p:=stB) (List.take_sublist_take_left (l:=l) (show n - 1≤n by omega));omega
   | true=>
     obtain ⟨h0,h1⟩:=h n hn hp;obtain ⟨k,rfl⟩:∃ k,n=k+1:=⟨n - 1,yY⟩;have e:([k+1].filter P).length=1:=(by simp [hp]);rw [fM] at h1 ih;have hk:k < l.length:=yY;rw [bH,aF hk,Option.getD_some] at h1;rw [aH hk,eJ];have e2:[l[k]].countP stB=1:=(by simp [h1]);omega
theorem U2w (s:fY):(bnF [G8] s).length≤s.data.toList.countP stB:=by
 unfold bnF;split
 ·exact aO _
 have hl:s.data.toList.length=s.size:=(aC s).symm;have:=X7e s.data.toList (fun k=>decide (0 < k) && U6 [G8] s k) (fun k hk hp=>by
  simp only [dC,cG] at hp;obtain ⟨h0,hd⟩:=hp;unfold U6 at hd;split at hd
  ·rename_i hc;rw [dC] at hc;obtain ⟨m,hm,hs⟩:=V5w _ hc.1;rw [cJ] at hm;have ha:m=k - 1:=yY;subst ha;refine ⟨h0,?_⟩;have hb:bt (s.extract 0 k) (k - 1)=(s.data.toList.getD (k - 1) 0).toNat:=by
    rw [bH,aF yY,Option.getD_some];rw [X6y _ _ (by rw [cJ];omega)];congr 1;have h3:(s.extract 0 k).data.toList[k - 1]'(by rw [←aC,cJ];omega)=s.data.toList[k - 1]'yY:=by
     simp [cX]
    exact h3
   rw [hb] at hs;have:=V5v _ (eG _) hs;rwa [UInt8.ofNat_toNat] at this
  ·cases hd) s.size yY
 refine aP this ?_;exact List.Sublist.countP_le (List.take_sublist _ _)
theorem V5k (f:List Tk):(E5 [G8] f).length≤(plI f).countP stB+1:=by
 unfold E5;refine aP (Y9m _ _ _) ?_;unfold Q4d;rw [aA,bA,bZ];have:=U2w (plS f);rw [show (plS f).data.toList=plI f by simp [plS]] at this;omega
theorem X6g:∀ f:List Tk,plI (X9 f)=plI f
 | []=>rfl
 | x::f=>by
   have ih:=X6g f;have e:X9 (x::f)=P8 x++X9 f:=(by simp [X9]);have e2:plI (x::f)=byI x++plI f:=rfl;rw [e,Q8p,ih,e2];congr 1;unfold P8;split
   ·rename_i hk;have:∀ l:List UInt8,plI (l.map chI)=l:=fun l=>by
     induction l with
     | nil=>rfl
     | cons c l ih=>exact congrArg (c::·) ih
    rw [this];unfold byI;rw [aK hk]
   ·show byI x++[]=_;rw [aX]
theorem Y8u (f:List Tk):plI (Q4 f)=plI f:=by rw [←X6g (Q4 f),L1,X6g]
theorem V0t (k:Nat):(Q5a.getD k ⟨#[]⟩).data.toList.countP stB≤1:=by
 by_cases h:k < Q5a.length
 ·have:∀ x∈Q5a,x.data.toList.countP stB≤1:=yX;rw [bH,aF h];exact this _ (aL h)
 ·rw [bH,dF yY];decide
theorem Y3k (a b:fY):(a++b).data.toList=a.data.toList++b.data.toList:=by simp
theorem X1s (L:List Int):∀ i out N,(T9 L i out N).1.data.toList.countP stB≤out.data.toList.countP stB+i
 | 0,out,N=>yQ
 | i+1,out,N=>by
   have hw:(G5 L N).data.toList.countP stB≤1:=V0t _;have hs:(⟨#[32]⟩:fY).data.toList.countP stB=0:=yX;rw [T9];split
   ·split
    ·have:=X1s L i (out++⟨#[32]⟩++G5 L N) (N+2);rw [Y3k,Y3k,eJ,eJ] at this;omega
    ·have:=X1s L i (out++G5 L N) (N+2);rw [Y3k,eJ] at this;omega
   ·have:=X1s L i (out++G5 L N) (N+1);rw [Y3k,eJ] at this;omega
theorem Z8q (L:List Int) (N:Nat):(J3 L N 3).1.data.toList.countP stB≤3:=by
 have h1:=X5 L N 4 yX;have h2:=X1s L (Q8 L N 4).toNat ⟨#[]⟩ (N+1);have h3:(ByteArray.mk #[]).data.toList.countP stB=0:=rfl;unfold J3;show (T9 L (Q8 L N 4).toNat ⟨#[]⟩ (N+1)).1.data.toList.countP stB≤3;omega
theorem Z8j (tags:Bool) (L:List Int) (c:Int) (t:fY) (op:List Tk) (id M:Nat):(U5 tags L c t op id M).1=⟨1,t,0⟩∨(U5 tags L c t op id M).1.k≠1:=by
 unfold U5;split
 ·exact .inr (by show (5:Int)≠1;decide)
 split
 ·exact .inr (by show (4:Int)≠1;decide)
 split
 ·exact .inr (by show (2:Int)≠1;decide)
 split
 ·exact .inr (by show (3:Int)≠1;decide)
 ·exact .inl rfl
theorem Z4l (x:Tk) (h:x.k≠1):(byI x).countP stB=0:=by
 unfold byI;rw [aE h];split
 ·decide
 ·rfl
theorem Y2a (tags:Bool) (L:List Int):∀ (i:Nat) (s:FS),(plI (D7 tags L i s).f).countP stB≤(plI s.f).countP stB+3 * i
 | 0,s=>yQ
 | i+1,s=>by
   have ih:=Y2a tags L i (O8 tags L s);rw [D7];refine aP ih ?_;have hl:=Z8q L s.N;have e:(plI (O8 tags L s).f).countP stB≤(plI s.f).countP stB+3:=by
    unfold O8;simp only
    rw [Y8u,Q8p,eJ];generalize J3 L s.N 3=ln at *;rcases Z8j tags L (Q8 L ln.2 8) ln.1 s.op s.id (ln.2+1) with h | h
    ·rw [h];have:plI [(⟨1,ln.1,0⟩:Tk)]=ln.1.data.toList:=by
      show byI ⟨1,ln.1,0⟩++[]=_;rw [aX];rfl
     rw [this];omega
    ·have:plI [(U5 tags L (Q8 L ln.2 8) ln.1 s.op s.id (ln.2+1)).1]=byI (U5 tags L (Q8 L ln.2 8) ln.1 s.op s.id (ln.2+1)).1:=aX _;rw [this,Z4l _ h];omega
   omega
theorem V6l (fmt:Int) (hf:D1 fmt) (L:List Int) (M:Nat):ntx (X0 (J9 fmt L M).1)≤10∧(X0 (J9 fmt L M).1).length≤125∧(E5 [G8] (Q4 (X0 (J9 fmt L M).1))).length≤16:=by
 obtain ⟨_,h2,_⟩:=W9 fmt hf L M;rw [h2];generalize decide (fmt=1)=tags;have hb:=X5 L M 6 yX;obtain ⟨hk,_⟩:=Q5m tags L (Q8 L M 6).toNat ⟨[],[],0,M+1⟩ 0 (Q4e tags (M+1));have hs:=Y2a tags L (Q8 L M 6).toNat ⟨[],[],0,M+1⟩;have e:(U8 tags L M ((5:Nat):Int)).1=(D7 tags L (Q8 L M 6).toNat ⟨[],[],0,M+1⟩).f++K2 (D7 tags L (Q8 L M 6).toNat ⟨[],[],0,M+1⟩).op:=rfl;have h1:=hk.len;have h3:=hk.bytes;have h4:=hk.oplen;have h5:=hk.opsz;rw [e];generalize D7 tags L (Q8 L M 6).toNat ⟨[],[],0,M+1⟩=s at *;have ha:(K2 s.op).length=s.op.length:=(by unfold K2;simp);have hd:∀ x∈K2 s.op,x.k≠1:=fun x hx=>by
  unfold K2 at hx;obtain ⟨y,_,rfl⟩:=cF.1 hx;show (3:Int)≠1;decide
 have hr:(Q8 L M 6).toNat≤5:=yY;have hg:∀ op:List Tk,(∀ x∈op,x.t.size≤5)→X2 (K2 op)≤5 * op.length:=fun op=>by
  intro h;have:∀ l:List Tk,(∀ x∈l,x.t.size≤5)→X2 (l.map fun y=>(⟨3,J8 y.t,y.d⟩:Tk))≤5 * l.length:=fun l=>by
   induction l with
   | nil=>intro _;exact yQ
   | cons x l ih=>
     intro hl;have h1:=ih fun y hy=>hl y (by simp [hy]);have h2:=X8i x.t;have h3:=hl x yW;have e:X2 ((x::l).map fun y=>(⟨3,J8 y.t,y.d⟩:Tk))=(J8 x.t).size+X2 (l.map fun y=>(⟨3,J8 y.t,y.d⟩:Tk)):=(by simp [X2]);rw [e,aG];omega
  have:=this op.reverse fun x hx=>h x (List.mem_reverse.1 hx);rwa [cT] at this
 have he:(plI (K2 s.op)).countP stB=0:=by
  rw [List.countP_eq_zero];intro c hc;obtain ⟨x,hx,hi⟩:=dA.1 hc;have h0:=Z4l x (hd x hx);rw [List.countP_eq_zero] at h0;exact h0 c hi
 have h6:=hg s.op h5;have h7:=Y4p (s.f++K2 s.op);have h8:=Q8z (s.f++K2 s.op);have h9:=V5k (Q4 (X9 (s.f++K2 s.op)));rw [aA,ha] at h7;rw [J7,aA,ha] at h8;rw [Y8u,X6g,Q8p,eJ,he] at h9;have hh:(plI ([]:List Tk)).countP stB=0:=rfl;rw [D2];simp only [hh] at hs;exact ⟨yY,yY,yY⟩
end Go.Proofs.YtfkojnofbpdjdaaGreatDoor
