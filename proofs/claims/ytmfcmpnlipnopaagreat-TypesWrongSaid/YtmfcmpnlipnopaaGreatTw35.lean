/- Parts of this proof, one behind the other: RefQ0. -/
import Derived.Test.YtmfcmpnlipnopaaGreatTw33
import Derived.Test.YtmfcmpnlipnopaaGreatTw30
import Derived.Outline
set_option maxRecDepth 1000000
set_option maxHeartbeats 40000000
namespace Go.Proofs.YtmfcmpnlipnopaaGreat
open Go.RowKit Go.Afx
noncomputable def ofRegion (n:Nat):Code:=((Tryz.f5.body.bind (findRegion n)).getD .skip)
theorem leafQ0 (name src part:ByteArray) (fuel n d:Int) (Ap Ab:Option Addr) (np cp nb cb:Nat) (qh qb:Bool) (w wr:World) {x0 x1 x3 x4 x5 x6 x8 x11 x12 x13 x14 x15 x16 x17 x18 x19 x20 x21 x22 x23 x24 x25 x26 x27 x28 x29 x30 x31 x32 x33 x34 x35 x36 x37 x38 x39 x40 x41 x42 x43 x44 x45 x46 x47 x48 x49 x50 x51 x52 x53 x54 x55 x56 x57 x58 x59 x60 x61 x62 x63 x64 x65 x66 x67 x68 x69 x70 x71 x72 x73 x74 x75 x76 x77 x78 x79 x80 x81 x82 x83 x84 x85 x86 x87 x88 x89 x90 x91 x92 x93 x94 x95 x96 x97 x98 x99 x100 x101 x102 x103 x104 x105 x106 x107 x108 x109 x110 x111 x112 x113 x114 x115 x116 x117 x118 x119 x120 x121 x122 x123 x124 x125 x126 x127 x128 x129 x130 x131 x132 x133 x134 x135 x136 x137 x138 x139 x140 x141 x142:Value} {I:Act→World→Prop} {Q0:Exit→Act→World→Prop}
  (hbx:IsBlk wr (w.heap.size+1+1) 36 #[.string name,.string src,.string part,.int .i64 fuel,.slice Ap np cp,.slice Ab nb cb]) (hrs:IsBlk wr (w.heap.size+1) 36 #[.string { data:=#[] },.string { data:=#[] },.string { data:=#[] },.int .i64 0,.slice none 0 0,.slice none 0 0])
  (HH:∀ W,Below wr.heap.size wr W→Calls Tryz.prog 15 #[.agg #[.string name,.string src,.string part,.int .i64 fuel,.slice Ap np cp,.slice Ab nb cb]] W fun e w'=>e=.returned (.bool qh)∧Below W.heap.size W w')
  (HBk:∀ W,Below wr.heap.size wr W→Calls Tryz.prog 16 #[.slice Ab nb cb] W fun e w'=>e=.returned (.bool qb)∧Below W.heap.size W w') (h1:¬ n≤300)
  (hI:∀ (y3 y4 y5 y6 y125 y126 y127 y128 y129 y130 y131 y132 y133 y134 y135 y136 y137 y138 y139 y140 y141 y142:Value) (W0:World),Below wr.heap.size wr W0→y3=.int .i64 n→y4=.int .i64 d→y5=.bool (decide (n≤300)&&decide (d≤12)&&qh&&qb)→y6=.bool true→I ⟨#[x0,x1,.pointer (some ⟨w.heap.size+1,0,none⟩),y3,y4,y5,y6,.pointer (some ⟨w.heap.size+1+1,0,none⟩),x8,.int .i64 n,.int .i64 d,x11,x12,x13,x14,x15,x16,x17,x18,x19,x20,x21,x22,x23,x24,x25,x26,x27,x28,x29,x30,x31,x32,x33,x34,x35,x36,x37,x38,x39,x40,x41,x42,x43,x44,x45,x46,x47,x48,x49,x50,x51,x52,x53,x54,x55,x56,x57,x58,x59,x60,x61,x62,x63,x64,x65,x66,x67,x68,x69,x70,x71,x72,x73,x74,x75,x76,x77,x78,x79,x80,x81,x82,x83,x84,x85,x86,x87,x88,x89,x90,x91,x92,x93,x94,x95,x96,x97,x98,x99,x100,x101,x102,x103,x104,x105,x106,x107,x108,x109,x110,x111,x112,x113,x114,x115,x116,x117,x118,x119,x120,x121,x122,x123,x124,y125,y126,y127,y128,y129,y130,y131,y132,y133,y134,y135,y136,y137,y138,y139,y140,y141,y142],[]⟩ ((((((W0.setCell ⟨w.heap.size+1,0,none⟩ (.string name)).setCell ⟨w.heap.size+1,1,none⟩ (.string src)).setCell ⟨w.heap.size+1,2,none⟩ (.string part)).setCell ⟨w.heap.size+1,3,none⟩ (.int .i64 fuel)).setCell ⟨w.heap.size+1,4,none⟩ (.slice Ap np cp)).setCell ⟨w.heap.size+1,5,none⟩ (.slice Ab nb cb))) :
  Code.wp Tryz.prog (ofRegion 14) (Exit.then I (noPanic Q0)) ⟨#[x0,x1,.pointer (some ⟨w.heap.size+1,0,none⟩),x3,x4,x5,x6,.pointer (some ⟨w.heap.size+1+1,0,none⟩),x8,.int .i64 n,.int .i64 d,x11,x12,x13,x14,x15,x16,x17,x18,x19,x20,x21,x22,x23,x24,x25,x26,x27,x28,x29,x30,x31,x32,x33,x34,x35,x36,x37,x38,x39,x40,x41,x42,x43,x44,x45,x46,x47,x48,x49,x50,x51,x52,x53,x54,x55,x56,x57,x58,x59,x60,x61,x62,x63,x64,x65,x66,x67,x68,x69,x70,x71,x72,x73,x74,x75,x76,x77,x78,x79,x80,x81,x82,x83,x84,x85,x86,x87,x88,x89,x90,x91,x92,x93,x94,x95,x96,x97,x98,x99,x100,x101,x102,x103,x104,x105,x106,x107,x108,x109,x110,x111,x112,x113,x114,x115,x116,x117,x118,x119,x120,x121,x122,x123,x124,x125,x126,x127,x128,x129,x130,x131,x132,x133,x134,x135,x136,x137,x138,x139,x140,x141,x142],[]⟩ wr:=by
 conv=>arg 2;whnf
 have HI:=Lhd hI
 have HHh:=Lhd HH
 have HBh:=Lhd HBk
 have HP:=Lhd (fun W (hW:Below wr.heap.size wr W)=>hbx.as_was (hW.block _ hbx.lt))
 have HR:=Lhd (fun W (hW:Below wr.heap.size wr W)=>hrs.as_was (hW.block _ hrs.lt))
 have HS2:=Lhd (fun W (hW:Below wr.heap.size wr W)=>(show (fun W=>W.cell? ⟨w.heap.size+1+1,0,none⟩=some (.string name)∧W.cell? ⟨w.heap.size+1+1,1,none⟩=some (.string src)∧W.cell? ⟨w.heap.size+1+1,2,none⟩=some (.string part)∧W.cell? ⟨w.heap.size+1+1,3,none⟩=some (.int .i64 fuel)∧W.cell? ⟨w.heap.size+1+1,4,none⟩=some (.slice Ap np cp)∧W.cell? ⟨w.heap.size+1+1,5,none⟩=some (.slice Ab nb cb)) W from by obtain⟨a0,a1,a2,a3,a4,a5,_⟩:=treeBox (HP.out W hW);exact⟨a0,a1,a2,a3,a4,a5⟩))
 have HS6:=Lhd (fun W (hW:Below wr.heap.size wr W)=>(show (fun W=>W.cell? ⟨w.heap.size+1+1,0,none⟩=some (.string name)∧W.cell? ⟨w.heap.size+1+1,1,none⟩=some (.string src)∧W.cell? ⟨w.heap.size+1+1,2,none⟩=some (.string part)∧W.cell? ⟨w.heap.size+1+1,3,none⟩=some (.int .i64 fuel)∧W.cell? ⟨w.heap.size+1+1,4,none⟩=some (.slice Ap np cp)∧W.cell? ⟨w.heap.size+1+1,5,none⟩=some (.slice Ab nb cb)) ((((((W.setCell ⟨w.heap.size+1,0,none⟩ (.string name)).setCell ⟨w.heap.size+1,1,none⟩ (.string src)).setCell ⟨w.heap.size+1,2,none⟩ (.string part)).setCell ⟨w.heap.size+1,3,none⟩ (.int .i64 fuel)).setCell ⟨w.heap.size+1,4,none⟩ (.slice Ap np cp)).setCell ⟨w.heap.size+1,5,none⟩ (.slice Ab nb cb)) from by
   have hb:=but_six W (w.heap.size+1) (.string name) (.string src) (.string part) (.int .i64 fuel) (.slice Ap np cp) (.slice Ab nb cb)
   have hl:=(HP.out W hW).lt
   obtain⟨a0,a1,a2,a3,a4,a5,_⟩:=treeBox (HP.out W hW)
   exact⟨(hb.cell (p:=⟨w.heap.size+1+1,0,none⟩) hl (by show ¬ (w.heap.size+1+1=w.heap.size+1);omega)).trans a0,(hb.cell (p:=⟨w.heap.size+1+1,1,none⟩) hl (by show ¬ (w.heap.size+1+1=w.heap.size+1);omega)).trans a1,(hb.cell (p:=⟨w.heap.size+1+1,2,none⟩) hl (by show ¬ (w.heap.size+1+1=w.heap.size+1);omega)).trans a2,(hb.cell (p:=⟨w.heap.size+1+1,3,none⟩) hl (by show ¬ (w.heap.size+1+1=w.heap.size+1);omega)).trans a3,(hb.cell (p:=⟨w.heap.size+1+1,4,none⟩) hl (by show ¬ (w.heap.size+1+1=w.heap.size+1);omega)).trans a4,(hb.cell (p:=⟨w.heap.size+1+1,5,none⟩) hl (by show ¬ (w.heap.size+1+1=w.heap.size+1);omega)).trans a5⟩))
 clear hI HH HBk hbx hrs
 have k0:decide (n≤300)=false:=by simpa using h1
 have HV:Hid ((decide (n≤300)&&decide (d≤12)&&qh&&qb)=false):=Lhd (by simp[*])
 refine wp_region_held (S:=(fun W=>W.cell? ⟨w.heap.size+1+1,0,none⟩=some (.string name)∧W.cell? ⟨w.heap.size+1+1,1,none⟩=some (.string src)∧W.cell? ⟨w.heap.size+1+1,2,none⟩=some (.string part)∧W.cell? ⟨w.heap.size+1+1,3,none⟩=some (.int .i64 fuel)∧W.cell? ⟨w.heap.size+1+1,4,none⟩=some (.slice Ap np cp)∧W.cell? ⟨w.heap.size+1+1,5,none⟩=some (.slice Ab nb cb))) (by kernel_rfl) ?_
 change wpAnyH _ _ _ _ _ _ _ _ (World.drew _)
 have hB0:Below wr.heap.size wr wr.drew:=(Below.refl wr.heap.size wr).drew
 generalize wr.drew=v0 at *
 have HSS:=HS2.out _ hB0
 refine tk 0 (.agg #[.string name,.string src,.string part,.int .i64 fuel,.slice Ap np cp,.slice Ab nb cb]) rfl HSS ?_
 go_simp
 refine tk 1 (.int .i64 n) rfl HSS ?_
 go_simp
 refine tk 2 (.int .i64 d) rfl HSS ?_
 go_simp
 refine tk 3 (.int .i64 n) rfl HSS ?_
 go_simp
 refine tk 4 (.bool false) rfl HSS ?_
 go_simp
 refine tk 5 (.bool false) rfl HSS ?_
 go_simp
 refine tu 6 rfl HSS ?_
 go_simp
 refine tu 7 rfl HSS ?_
 go_simp
 refine tk 8 (.bool false) rfl HSS ?_
 go_simp
 refine tk 9 (.bool false) rfl HSS ?_
 go_simp
 refine tu 10 rfl HSS ?_
 go_simp
 refine tu 11 rfl HSS ?_
 go_simp
 refine tk 12 (.bool false) rfl HSS ?_
 go_simp
 refine tk 13 (.bool false) rfl HSS ?_
 go_simp
 refine tu 14 rfl HSS ?_
 go_simp
 refine tu 15 rfl HSS ?_
 go_simp
 refine tu 16 rfl HSS ?_
 go_simp
 refine tk 17 (.bool false) rfl HSS ?_
 go_simp
 obtain⟨c0,c1,c2,c3,c4,c5,cl⟩:=treeBox (HR.out _ hB0)
 have cf:=(HR.out _ hB0).frozen
 refine wpAnyH_ready (rs:=[18]) (by kernel_rfl) (by simp) ?_
 refine AllReadyH.cons rfl (fun K hK=>?_) AllReadyH.nil
 go_simp
 have HSS:=HS6.out _ hB0
 refine hK.out _ _ HSS (fun _=>?_);clear hK K
 refine tk 19 (.int .i64 n) rfl HSS ?_
 go_simp
 refine tk 20 (.int .i64 d) rfl HSS ?_
 go_simp
 refine tk 21 (.bool false) rfl HSS ?_
 go_simp
 refine tk 22 (.bool true) rfl HSS ?_
 go_simp
 refine wpAnyH_done (by kernel_rfl) ?_ _
 exact HI.out _ _ _ _ _ _ _ _ _ _ _ _ _ _ _ _ _ _ _ _ _ _ _ hB0 rfl rfl (by rw[HV.out]) rfl
theorem leafQ1 (name src part:ByteArray) (fuel n d:Int) (Ap Ab:Option Addr) (np cp nb cb:Nat) (qh qb:Bool) (w wr:World) {x0 x1 x3 x4 x5 x6 x8 x11 x12 x13 x14 x15 x16 x17 x18 x19 x20 x21 x22 x23 x24 x25 x26 x27 x28 x29 x30 x31 x32 x33 x34 x35 x36 x37 x38 x39 x40 x41 x42 x43 x44 x45 x46 x47 x48 x49 x50 x51 x52 x53 x54 x55 x56 x57 x58 x59 x60 x61 x62 x63 x64 x65 x66 x67 x68 x69 x70 x71 x72 x73 x74 x75 x76 x77 x78 x79 x80 x81 x82 x83 x84 x85 x86 x87 x88 x89 x90 x91 x92 x93 x94 x95 x96 x97 x98 x99 x100 x101 x102 x103 x104 x105 x106 x107 x108 x109 x110 x111 x112 x113 x114 x115 x116 x117 x118 x119 x120 x121 x122 x123 x124 x125 x126 x127 x128 x129 x130 x131 x132 x133 x134 x135 x136 x137 x138 x139 x140 x141 x142:Value} {I:Act→World→Prop} {Q0:Exit→Act→World→Prop}
  (hbx:IsBlk wr (w.heap.size+1+1) 36 #[.string name,.string src,.string part,.int .i64 fuel,.slice Ap np cp,.slice Ab nb cb]) (hrs:IsBlk wr (w.heap.size+1) 36 #[.string { data:=#[] },.string { data:=#[] },.string { data:=#[] },.int .i64 0,.slice none 0 0,.slice none 0 0])
  (HH:∀ W,Below wr.heap.size wr W→Calls Tryz.prog 15 #[.agg #[.string name,.string src,.string part,.int .i64 fuel,.slice Ap np cp,.slice Ab nb cb]] W fun e w'=>e=.returned (.bool qh)∧Below W.heap.size W w')
  (HBk:∀ W,Below wr.heap.size wr W→Calls Tryz.prog 16 #[.slice Ab nb cb] W fun e w'=>e=.returned (.bool qb)∧Below W.heap.size W w') (h1:n≤300) (h2:¬ d≤12)
  (hI:∀ (y3 y4 y5 y6 y125 y126 y127 y128 y129 y130 y131 y132 y133 y134 y135 y136 y137 y138 y139 y140 y141 y142:Value) (W0:World),Below wr.heap.size wr W0→y3=.int .i64 n→y4=.int .i64 d→y5=.bool (decide (n≤300)&&decide (d≤12)&&qh&&qb)→y6=.bool true→I ⟨#[x0,x1,.pointer (some ⟨w.heap.size+1,0,none⟩),y3,y4,y5,y6,.pointer (some ⟨w.heap.size+1+1,0,none⟩),x8,.int .i64 n,.int .i64 d,x11,x12,x13,x14,x15,x16,x17,x18,x19,x20,x21,x22,x23,x24,x25,x26,x27,x28,x29,x30,x31,x32,x33,x34,x35,x36,x37,x38,x39,x40,x41,x42,x43,x44,x45,x46,x47,x48,x49,x50,x51,x52,x53,x54,x55,x56,x57,x58,x59,x60,x61,x62,x63,x64,x65,x66,x67,x68,x69,x70,x71,x72,x73,x74,x75,x76,x77,x78,x79,x80,x81,x82,x83,x84,x85,x86,x87,x88,x89,x90,x91,x92,x93,x94,x95,x96,x97,x98,x99,x100,x101,x102,x103,x104,x105,x106,x107,x108,x109,x110,x111,x112,x113,x114,x115,x116,x117,x118,x119,x120,x121,x122,x123,x124,y125,y126,y127,y128,y129,y130,y131,y132,y133,y134,y135,y136,y137,y138,y139,y140,y141,y142],[]⟩ ((((((W0.setCell ⟨w.heap.size+1,0,none⟩ (.string name)).setCell ⟨w.heap.size+1,1,none⟩ (.string src)).setCell ⟨w.heap.size+1,2,none⟩ (.string part)).setCell ⟨w.heap.size+1,3,none⟩ (.int .i64 fuel)).setCell ⟨w.heap.size+1,4,none⟩ (.slice Ap np cp)).setCell ⟨w.heap.size+1,5,none⟩ (.slice Ab nb cb))) :
  Code.wp Tryz.prog (ofRegion 14) (Exit.then I (noPanic Q0)) ⟨#[x0,x1,.pointer (some ⟨w.heap.size+1,0,none⟩),x3,x4,x5,x6,.pointer (some ⟨w.heap.size+1+1,0,none⟩),x8,.int .i64 n,.int .i64 d,x11,x12,x13,x14,x15,x16,x17,x18,x19,x20,x21,x22,x23,x24,x25,x26,x27,x28,x29,x30,x31,x32,x33,x34,x35,x36,x37,x38,x39,x40,x41,x42,x43,x44,x45,x46,x47,x48,x49,x50,x51,x52,x53,x54,x55,x56,x57,x58,x59,x60,x61,x62,x63,x64,x65,x66,x67,x68,x69,x70,x71,x72,x73,x74,x75,x76,x77,x78,x79,x80,x81,x82,x83,x84,x85,x86,x87,x88,x89,x90,x91,x92,x93,x94,x95,x96,x97,x98,x99,x100,x101,x102,x103,x104,x105,x106,x107,x108,x109,x110,x111,x112,x113,x114,x115,x116,x117,x118,x119,x120,x121,x122,x123,x124,x125,x126,x127,x128,x129,x130,x131,x132,x133,x134,x135,x136,x137,x138,x139,x140,x141,x142],[]⟩ wr:=by
 conv=>arg 2;whnf
 have HI:=Lhd hI
 have HHh:=Lhd HH
 have HBh:=Lhd HBk
 have HP:=Lhd (fun W (hW:Below wr.heap.size wr W)=>hbx.as_was (hW.block _ hbx.lt))
 have HR:=Lhd (fun W (hW:Below wr.heap.size wr W)=>hrs.as_was (hW.block _ hrs.lt))
 have HS2:=Lhd (fun W (hW:Below wr.heap.size wr W)=>(show (fun W=>W.cell? ⟨w.heap.size+1+1,0,none⟩=some (.string name)∧W.cell? ⟨w.heap.size+1+1,1,none⟩=some (.string src)∧W.cell? ⟨w.heap.size+1+1,2,none⟩=some (.string part)∧W.cell? ⟨w.heap.size+1+1,3,none⟩=some (.int .i64 fuel)∧W.cell? ⟨w.heap.size+1+1,4,none⟩=some (.slice Ap np cp)∧W.cell? ⟨w.heap.size+1+1,5,none⟩=some (.slice Ab nb cb)) W from by obtain⟨a0,a1,a2,a3,a4,a5,_⟩:=treeBox (HP.out W hW);exact⟨a0,a1,a2,a3,a4,a5⟩))
 have HS6:=Lhd (fun W (hW:Below wr.heap.size wr W)=>(show (fun W=>W.cell? ⟨w.heap.size+1+1,0,none⟩=some (.string name)∧W.cell? ⟨w.heap.size+1+1,1,none⟩=some (.string src)∧W.cell? ⟨w.heap.size+1+1,2,none⟩=some (.string part)∧W.cell? ⟨w.heap.size+1+1,3,none⟩=some (.int .i64 fuel)∧W.cell? ⟨w.heap.size+1+1,4,none⟩=some (.slice Ap np cp)∧W.cell? ⟨w.heap.size+1+1,5,none⟩=some (.slice Ab nb cb)) ((((((W.setCell ⟨w.heap.size+1,0,none⟩ (.string name)).setCell ⟨w.heap.size+1,1,none⟩ (.string src)).setCell ⟨w.heap.size+1,2,none⟩ (.string part)).setCell ⟨w.heap.size+1,3,none⟩ (.int .i64 fuel)).setCell ⟨w.heap.size+1,4,none⟩ (.slice Ap np cp)).setCell ⟨w.heap.size+1,5,none⟩ (.slice Ab nb cb)) from by
   have hb:=but_six W (w.heap.size+1) (.string name) (.string src) (.string part) (.int .i64 fuel) (.slice Ap np cp) (.slice Ab nb cb)
   have hl:=(HP.out W hW).lt
   obtain⟨a0,a1,a2,a3,a4,a5,_⟩:=treeBox (HP.out W hW)
   exact⟨(hb.cell (p:=⟨w.heap.size+1+1,0,none⟩) hl (by show ¬ (w.heap.size+1+1=w.heap.size+1);omega)).trans a0,(hb.cell (p:=⟨w.heap.size+1+1,1,none⟩) hl (by show ¬ (w.heap.size+1+1=w.heap.size+1);omega)).trans a1,(hb.cell (p:=⟨w.heap.size+1+1,2,none⟩) hl (by show ¬ (w.heap.size+1+1=w.heap.size+1);omega)).trans a2,(hb.cell (p:=⟨w.heap.size+1+1,3,none⟩) hl (by show ¬ (w.heap.size+1+1=w.heap.size+1);omega)).trans a3,(hb.cell (p:=⟨w.heap.size+1+1,4,none⟩) hl (by show ¬ (w.heap.size+1+1=w.heap.size+1);omega)).trans a4,(hb.cell (p:=⟨w.heap.size+1+1,5,none⟩) hl (by show ¬ (w.heap.size+1+1=w.heap.size+1);omega)).trans a5⟩))
 clear hI HH HBk hbx hrs
 have k0:decide (n≤300)=true:=by simpa using h1
 have k1:decide (d≤12)=false:=by simpa using h2
 have HV:Hid ((decide (n≤300)&&decide (d≤12)&&qh&&qb)=false):=Lhd (by simp[*])
 refine wp_region_held (S:=(fun W=>W.cell? ⟨w.heap.size+1+1,0,none⟩=some (.string name)∧W.cell? ⟨w.heap.size+1+1,1,none⟩=some (.string src)∧W.cell? ⟨w.heap.size+1+1,2,none⟩=some (.string part)∧W.cell? ⟨w.heap.size+1+1,3,none⟩=some (.int .i64 fuel)∧W.cell? ⟨w.heap.size+1+1,4,none⟩=some (.slice Ap np cp)∧W.cell? ⟨w.heap.size+1+1,5,none⟩=some (.slice Ab nb cb))) (by kernel_rfl) ?_
 change wpAnyH _ _ _ _ _ _ _ _ (World.drew _)
 have hB0:Below wr.heap.size wr wr.drew:=(Below.refl wr.heap.size wr).drew
 generalize wr.drew=v0 at *
 have HSS:=HS2.out _ hB0
 refine tk 0 (.agg #[.string name,.string src,.string part,.int .i64 fuel,.slice Ap np cp,.slice Ab nb cb]) rfl HSS ?_
 go_simp
 refine tk 1 (.int .i64 n) rfl HSS ?_
 go_simp
 refine tk 2 (.int .i64 d) rfl HSS ?_
 go_simp
 refine tk 3 (.int .i64 n) rfl HSS ?_
 go_simp
 refine tk 4 (.bool true) rfl HSS ?_
 go_simp
 refine tk 5 (.bool true) rfl HSS ?_
 go_simp
 refine tk 6 (.int .i64 d) rfl HSS ?_
 go_simp
 refine tk 7 (.bool false) rfl HSS ?_
 go_simp
 refine tk 8 (.bool false) rfl HSS ?_
 go_simp
 refine tk 9 (.bool false) rfl HSS ?_
 go_simp
 refine tu 10 rfl HSS ?_
 go_simp
 refine tu 11 rfl HSS ?_
 go_simp
 refine tk 12 (.bool false) rfl HSS ?_
 go_simp
 refine tk 13 (.bool false) rfl HSS ?_
 go_simp
 refine tu 14 rfl HSS ?_
 go_simp
 refine tu 15 rfl HSS ?_
 go_simp
 refine tu 16 rfl HSS ?_
 go_simp
 refine tk 17 (.bool false) rfl HSS ?_
 go_simp
 obtain⟨c0,c1,c2,c3,c4,c5,cl⟩:=treeBox (HR.out _ hB0)
 have cf:=(HR.out _ hB0).frozen
 refine wpAnyH_ready (rs:=[18]) (by kernel_rfl) (by simp) ?_
 refine AllReadyH.cons rfl (fun K hK=>?_) AllReadyH.nil
 go_simp
 have HSS:=HS6.out _ hB0
 refine hK.out _ _ HSS (fun _=>?_);clear hK K
 refine tk 19 (.int .i64 n) rfl HSS ?_
 go_simp
 refine tk 20 (.int .i64 d) rfl HSS ?_
 go_simp
 refine tk 21 (.bool false) rfl HSS ?_
 go_simp
 refine tk 22 (.bool true) rfl HSS ?_
 go_simp
 refine wpAnyH_done (by kernel_rfl) ?_ _
 exact HI.out _ _ _ _ _ _ _ _ _ _ _ _ _ _ _ _ _ _ _ _ _ _ _ hB0 rfl rfl (by rw[HV.out]) rfl
theorem leafQ2 (name src part:ByteArray) (fuel n d:Int) (Ap Ab:Option Addr) (np cp nb cb:Nat) (qh qb:Bool) (w wr:World) {x0 x1 x3 x4 x5 x6 x8 x11 x12 x13 x14 x15 x16 x17 x18 x19 x20 x21 x22 x23 x24 x25 x26 x27 x28 x29 x30 x31 x32 x33 x34 x35 x36 x37 x38 x39 x40 x41 x42 x43 x44 x45 x46 x47 x48 x49 x50 x51 x52 x53 x54 x55 x56 x57 x58 x59 x60 x61 x62 x63 x64 x65 x66 x67 x68 x69 x70 x71 x72 x73 x74 x75 x76 x77 x78 x79 x80 x81 x82 x83 x84 x85 x86 x87 x88 x89 x90 x91 x92 x93 x94 x95 x96 x97 x98 x99 x100 x101 x102 x103 x104 x105 x106 x107 x108 x109 x110 x111 x112 x113 x114 x115 x116 x117 x118 x119 x120 x121 x122 x123 x124 x125 x126 x127 x128 x129 x130 x131 x132 x133 x134 x135 x136 x137 x138 x139 x140 x141 x142:Value} {I:Act→World→Prop} {Q0:Exit→Act→World→Prop}
  (hbx:IsBlk wr (w.heap.size+1+1) 36 #[.string name,.string src,.string part,.int .i64 fuel,.slice Ap np cp,.slice Ab nb cb]) (hrs:IsBlk wr (w.heap.size+1) 36 #[.string { data:=#[] },.string { data:=#[] },.string { data:=#[] },.int .i64 0,.slice none 0 0,.slice none 0 0])
  (HH:∀ W,Below wr.heap.size wr W→Calls Tryz.prog 15 #[.agg #[.string name,.string src,.string part,.int .i64 fuel,.slice Ap np cp,.slice Ab nb cb]] W fun e w'=>e=.returned (.bool qh)∧Below W.heap.size W w')
  (HBk:∀ W,Below wr.heap.size wr W→Calls Tryz.prog 16 #[.slice Ab nb cb] W fun e w'=>e=.returned (.bool qb)∧Below W.heap.size W w') (h1:n≤300) (h2:d≤12) (h3:qh=false)
  (hI:∀ (y3 y4 y5 y6 y125 y126 y127 y128 y129 y130 y131 y132 y133 y134 y135 y136 y137 y138 y139 y140 y141 y142:Value) (W0:World),Below wr.heap.size wr W0→y3=.int .i64 n→y4=.int .i64 d→y5=.bool (decide (n≤300)&&decide (d≤12)&&qh&&qb)→y6=.bool true→I ⟨#[x0,x1,.pointer (some ⟨w.heap.size+1,0,none⟩),y3,y4,y5,y6,.pointer (some ⟨w.heap.size+1+1,0,none⟩),x8,.int .i64 n,.int .i64 d,x11,x12,x13,x14,x15,x16,x17,x18,x19,x20,x21,x22,x23,x24,x25,x26,x27,x28,x29,x30,x31,x32,x33,x34,x35,x36,x37,x38,x39,x40,x41,x42,x43,x44,x45,x46,x47,x48,x49,x50,x51,x52,x53,x54,x55,x56,x57,x58,x59,x60,x61,x62,x63,x64,x65,x66,x67,x68,x69,x70,x71,x72,x73,x74,x75,x76,x77,x78,x79,x80,x81,x82,x83,x84,x85,x86,x87,x88,x89,x90,x91,x92,x93,x94,x95,x96,x97,x98,x99,x100,x101,x102,x103,x104,x105,x106,x107,x108,x109,x110,x111,x112,x113,x114,x115,x116,x117,x118,x119,x120,x121,x122,x123,x124,y125,y126,y127,y128,y129,y130,y131,y132,y133,y134,y135,y136,y137,y138,y139,y140,y141,y142],[]⟩ ((((((W0.setCell ⟨w.heap.size+1,0,none⟩ (.string name)).setCell ⟨w.heap.size+1,1,none⟩ (.string src)).setCell ⟨w.heap.size+1,2,none⟩ (.string part)).setCell ⟨w.heap.size+1,3,none⟩ (.int .i64 fuel)).setCell ⟨w.heap.size+1,4,none⟩ (.slice Ap np cp)).setCell ⟨w.heap.size+1,5,none⟩ (.slice Ab nb cb))) :
  Code.wp Tryz.prog (ofRegion 14) (Exit.then I (noPanic Q0)) ⟨#[x0,x1,.pointer (some ⟨w.heap.size+1,0,none⟩),x3,x4,x5,x6,.pointer (some ⟨w.heap.size+1+1,0,none⟩),x8,.int .i64 n,.int .i64 d,x11,x12,x13,x14,x15,x16,x17,x18,x19,x20,x21,x22,x23,x24,x25,x26,x27,x28,x29,x30,x31,x32,x33,x34,x35,x36,x37,x38,x39,x40,x41,x42,x43,x44,x45,x46,x47,x48,x49,x50,x51,x52,x53,x54,x55,x56,x57,x58,x59,x60,x61,x62,x63,x64,x65,x66,x67,x68,x69,x70,x71,x72,x73,x74,x75,x76,x77,x78,x79,x80,x81,x82,x83,x84,x85,x86,x87,x88,x89,x90,x91,x92,x93,x94,x95,x96,x97,x98,x99,x100,x101,x102,x103,x104,x105,x106,x107,x108,x109,x110,x111,x112,x113,x114,x115,x116,x117,x118,x119,x120,x121,x122,x123,x124,x125,x126,x127,x128,x129,x130,x131,x132,x133,x134,x135,x136,x137,x138,x139,x140,x141,x142],[]⟩ wr:=by
 conv=>arg 2;whnf
 have HI:=Lhd hI
 have HHh:=Lhd HH
 have HBh:=Lhd HBk
 have HP:=Lhd (fun W (hW:Below wr.heap.size wr W)=>hbx.as_was (hW.block _ hbx.lt))
 have HR:=Lhd (fun W (hW:Below wr.heap.size wr W)=>hrs.as_was (hW.block _ hrs.lt))
 have HS2:=Lhd (fun W (hW:Below wr.heap.size wr W)=>(show (fun W=>W.cell? ⟨w.heap.size+1+1,0,none⟩=some (.string name)∧W.cell? ⟨w.heap.size+1+1,1,none⟩=some (.string src)∧W.cell? ⟨w.heap.size+1+1,2,none⟩=some (.string part)∧W.cell? ⟨w.heap.size+1+1,3,none⟩=some (.int .i64 fuel)∧W.cell? ⟨w.heap.size+1+1,4,none⟩=some (.slice Ap np cp)∧W.cell? ⟨w.heap.size+1+1,5,none⟩=some (.slice Ab nb cb)) W from by obtain⟨a0,a1,a2,a3,a4,a5,_⟩:=treeBox (HP.out W hW);exact⟨a0,a1,a2,a3,a4,a5⟩))
 have HS6:=Lhd (fun W (hW:Below wr.heap.size wr W)=>(show (fun W=>W.cell? ⟨w.heap.size+1+1,0,none⟩=some (.string name)∧W.cell? ⟨w.heap.size+1+1,1,none⟩=some (.string src)∧W.cell? ⟨w.heap.size+1+1,2,none⟩=some (.string part)∧W.cell? ⟨w.heap.size+1+1,3,none⟩=some (.int .i64 fuel)∧W.cell? ⟨w.heap.size+1+1,4,none⟩=some (.slice Ap np cp)∧W.cell? ⟨w.heap.size+1+1,5,none⟩=some (.slice Ab nb cb)) ((((((W.setCell ⟨w.heap.size+1,0,none⟩ (.string name)).setCell ⟨w.heap.size+1,1,none⟩ (.string src)).setCell ⟨w.heap.size+1,2,none⟩ (.string part)).setCell ⟨w.heap.size+1,3,none⟩ (.int .i64 fuel)).setCell ⟨w.heap.size+1,4,none⟩ (.slice Ap np cp)).setCell ⟨w.heap.size+1,5,none⟩ (.slice Ab nb cb)) from by
   have hb:=but_six W (w.heap.size+1) (.string name) (.string src) (.string part) (.int .i64 fuel) (.slice Ap np cp) (.slice Ab nb cb)
   have hl:=(HP.out W hW).lt
   obtain⟨a0,a1,a2,a3,a4,a5,_⟩:=treeBox (HP.out W hW)
   exact⟨(hb.cell (p:=⟨w.heap.size+1+1,0,none⟩) hl (by show ¬ (w.heap.size+1+1=w.heap.size+1);omega)).trans a0,(hb.cell (p:=⟨w.heap.size+1+1,1,none⟩) hl (by show ¬ (w.heap.size+1+1=w.heap.size+1);omega)).trans a1,(hb.cell (p:=⟨w.heap.size+1+1,2,none⟩) hl (by show ¬ (w.heap.size+1+1=w.heap.size+1);omega)).trans a2,(hb.cell (p:=⟨w.heap.size+1+1,3,none⟩) hl (by show ¬ (w.heap.size+1+1=w.heap.size+1);omega)).trans a3,(hb.cell (p:=⟨w.heap.size+1+1,4,none⟩) hl (by show ¬ (w.heap.size+1+1=w.heap.size+1);omega)).trans a4,(hb.cell (p:=⟨w.heap.size+1+1,5,none⟩) hl (by show ¬ (w.heap.size+1+1=w.heap.size+1);omega)).trans a5⟩))
 clear hI HH HBk hbx hrs
 have k0:decide (n≤300)=true:=by simpa using h1
 have k1:decide (d≤12)=true:=by simpa using h2
 subst h3
 have HV:Hid ((decide (n≤300)&&decide (d≤12)&&false&&qb)=false):=Lhd (by simp[*])
 refine wp_region_held (S:=(fun W=>W.cell? ⟨w.heap.size+1+1,0,none⟩=some (.string name)∧W.cell? ⟨w.heap.size+1+1,1,none⟩=some (.string src)∧W.cell? ⟨w.heap.size+1+1,2,none⟩=some (.string part)∧W.cell? ⟨w.heap.size+1+1,3,none⟩=some (.int .i64 fuel)∧W.cell? ⟨w.heap.size+1+1,4,none⟩=some (.slice Ap np cp)∧W.cell? ⟨w.heap.size+1+1,5,none⟩=some (.slice Ab nb cb))) (by kernel_rfl) ?_
 change wpAnyH _ _ _ _ _ _ _ _ (World.drew _)
 have hB0:Below wr.heap.size wr wr.drew:=(Below.refl wr.heap.size wr).drew
 have HSS:=HS2.out _ hB0
 refine tk 0 (.agg #[.string name,.string src,.string part,.int .i64 fuel,.slice Ap np cp,.slice Ab nb cb]) rfl HSS ?_
 go_simp
 refine tk 1 (.int .i64 n) rfl HSS ?_
 go_simp
 refine tk 2 (.int .i64 d) rfl HSS ?_
 go_simp
 refine tk 3 (.int .i64 n) rfl HSS ?_
 go_simp
 refine tk 4 (.bool true) rfl HSS ?_
 go_simp
 refine tk 5 (.bool true) rfl HSS ?_
 go_simp
 refine tk 6 (.int .i64 d) rfl HSS ?_
 go_simp
 refine tk 7 (.bool true) rfl HSS ?_
 go_simp
 refine tk 8 (.bool true) rfl HSS ?_
 go_simp
 refine tk 9 (.bool true) rfl HSS ?_
 go_simp
 refine tk 10 (.agg #[.string name,.string src,.string part,.int .i64 fuel,.slice Ap np cp,.slice Ab nb cb]) rfl HSS ?_
 go_simp
 refine wpAnyH_ready (rs:=[11]) (by kernel_rfl) (by simp) ?_
 refine AllReadyH.cons rfl (fun K hK=>?_) AllReadyH.nil
 go_simp
 refine(HHh.out _ hB0).mono ?_
 rintro e v1 ⟨rfl,hb1⟩
 have hB1:Below wr.heap.size wr v1:=hB0.trans (hb1.mono hB0.size)
 have HSS:=HS2.out v1 hB1
 go_simp
 refine hK.out _ _ HSS (fun _=>?_);clear hK K
 refine tk 12 (.bool false) rfl HSS ?_
 go_simp
 refine tk 13 (.bool false) rfl HSS ?_
 go_simp
 refine tu 14 rfl HSS ?_
 go_simp
 refine tu 15 rfl HSS ?_
 go_simp
 refine tu 16 rfl HSS ?_
 go_simp
 refine tk 17 (.bool false) rfl HSS ?_
 go_simp
 obtain⟨c0,c1,c2,c3,c4,c5,cl⟩:=treeBox (HR.out _ hB1)
 have cf:=(HR.out _ hB1).frozen
 refine wpAnyH_ready (rs:=[18]) (by kernel_rfl) (by simp) ?_
 refine AllReadyH.cons rfl (fun K hK=>?_) AllReadyH.nil
 go_simp
 have HSS:=HS6.out _ hB1
 refine hK.out _ _ HSS (fun _=>?_);clear hK K
 refine tk 19 (.int .i64 n) rfl HSS ?_
 go_simp
 refine tk 20 (.int .i64 d) rfl HSS ?_
 go_simp
 refine tk 21 (.bool false) rfl HSS ?_
 go_simp
 refine tk 22 (.bool true) rfl HSS ?_
 go_simp
 refine wpAnyH_done (by kernel_rfl) ?_ _
 exact HI.out _ _ _ _ _ _ _ _ _ _ _ _ _ _ _ _ _ _ _ _ _ _ _ hB1 rfl rfl (by rw[HV.out]) rfl
theorem leafQ3 (name src part:ByteArray) (fuel n d:Int) (Ap Ab:Option Addr) (np cp nb cb:Nat) (qh qb:Bool) (w wr:World) {x0 x1 x3 x4 x5 x6 x8 x11 x12 x13 x14 x15 x16 x17 x18 x19 x20 x21 x22 x23 x24 x25 x26 x27 x28 x29 x30 x31 x32 x33 x34 x35 x36 x37 x38 x39 x40 x41 x42 x43 x44 x45 x46 x47 x48 x49 x50 x51 x52 x53 x54 x55 x56 x57 x58 x59 x60 x61 x62 x63 x64 x65 x66 x67 x68 x69 x70 x71 x72 x73 x74 x75 x76 x77 x78 x79 x80 x81 x82 x83 x84 x85 x86 x87 x88 x89 x90 x91 x92 x93 x94 x95 x96 x97 x98 x99 x100 x101 x102 x103 x104 x105 x106 x107 x108 x109 x110 x111 x112 x113 x114 x115 x116 x117 x118 x119 x120 x121 x122 x123 x124 x125 x126 x127 x128 x129 x130 x131 x132 x133 x134 x135 x136 x137 x138 x139 x140 x141 x142:Value} {I:Act→World→Prop} {Q0:Exit→Act→World→Prop}
  (hbx:IsBlk wr (w.heap.size+1+1) 36 #[.string name,.string src,.string part,.int .i64 fuel,.slice Ap np cp,.slice Ab nb cb]) (hrs:IsBlk wr (w.heap.size+1) 36 #[.string { data:=#[] },.string { data:=#[] },.string { data:=#[] },.int .i64 0,.slice none 0 0,.slice none 0 0])
  (HH:∀ W,Below wr.heap.size wr W→Calls Tryz.prog 15 #[.agg #[.string name,.string src,.string part,.int .i64 fuel,.slice Ap np cp,.slice Ab nb cb]] W fun e w'=>e=.returned (.bool qh)∧Below W.heap.size W w')
  (HBk:∀ W,Below wr.heap.size wr W→Calls Tryz.prog 16 #[.slice Ab nb cb] W fun e w'=>e=.returned (.bool qb)∧Below W.heap.size W w') (h1:n≤300) (h2:d≤12) (h3:qh=true) (h4:qb=false)
  (hI:∀ (y3 y4 y5 y6 y125 y126 y127 y128 y129 y130 y131 y132 y133 y134 y135 y136 y137 y138 y139 y140 y141 y142:Value) (W0:World),Below wr.heap.size wr W0→y3=.int .i64 n→y4=.int .i64 d→y5=.bool (decide (n≤300)&&decide (d≤12)&&qh&&qb)→y6=.bool true→I ⟨#[x0,x1,.pointer (some ⟨w.heap.size+1,0,none⟩),y3,y4,y5,y6,.pointer (some ⟨w.heap.size+1+1,0,none⟩),x8,.int .i64 n,.int .i64 d,x11,x12,x13,x14,x15,x16,x17,x18,x19,x20,x21,x22,x23,x24,x25,x26,x27,x28,x29,x30,x31,x32,x33,x34,x35,x36,x37,x38,x39,x40,x41,x42,x43,x44,x45,x46,x47,x48,x49,x50,x51,x52,x53,x54,x55,x56,x57,x58,x59,x60,x61,x62,x63,x64,x65,x66,x67,x68,x69,x70,x71,x72,x73,x74,x75,x76,x77,x78,x79,x80,x81,x82,x83,x84,x85,x86,x87,x88,x89,x90,x91,x92,x93,x94,x95,x96,x97,x98,x99,x100,x101,x102,x103,x104,x105,x106,x107,x108,x109,x110,x111,x112,x113,x114,x115,x116,x117,x118,x119,x120,x121,x122,x123,x124,y125,y126,y127,y128,y129,y130,y131,y132,y133,y134,y135,y136,y137,y138,y139,y140,y141,y142],[]⟩ ((((((W0.setCell ⟨w.heap.size+1,0,none⟩ (.string name)).setCell ⟨w.heap.size+1,1,none⟩ (.string src)).setCell ⟨w.heap.size+1,2,none⟩ (.string part)).setCell ⟨w.heap.size+1,3,none⟩ (.int .i64 fuel)).setCell ⟨w.heap.size+1,4,none⟩ (.slice Ap np cp)).setCell ⟨w.heap.size+1,5,none⟩ (.slice Ab nb cb))) :
  Code.wp Tryz.prog (ofRegion 14) (Exit.then I (noPanic Q0)) ⟨#[x0,x1,.pointer (some ⟨w.heap.size+1,0,none⟩),x3,x4,x5,x6,.pointer (some ⟨w.heap.size+1+1,0,none⟩),x8,.int .i64 n,.int .i64 d,x11,x12,x13,x14,x15,x16,x17,x18,x19,x20,x21,x22,x23,x24,x25,x26,x27,x28,x29,x30,x31,x32,x33,x34,x35,x36,x37,x38,x39,x40,x41,x42,x43,x44,x45,x46,x47,x48,x49,x50,x51,x52,x53,x54,x55,x56,x57,x58,x59,x60,x61,x62,x63,x64,x65,x66,x67,x68,x69,x70,x71,x72,x73,x74,x75,x76,x77,x78,x79,x80,x81,x82,x83,x84,x85,x86,x87,x88,x89,x90,x91,x92,x93,x94,x95,x96,x97,x98,x99,x100,x101,x102,x103,x104,x105,x106,x107,x108,x109,x110,x111,x112,x113,x114,x115,x116,x117,x118,x119,x120,x121,x122,x123,x124,x125,x126,x127,x128,x129,x130,x131,x132,x133,x134,x135,x136,x137,x138,x139,x140,x141,x142],[]⟩ wr:=by
 conv=>arg 2;whnf
 have HI:=Lhd hI
 have HHh:=Lhd HH
 have HBh:=Lhd HBk
 have HP:=Lhd (fun W (hW:Below wr.heap.size wr W)=>hbx.as_was (hW.block _ hbx.lt))
 have HR:=Lhd (fun W (hW:Below wr.heap.size wr W)=>hrs.as_was (hW.block _ hrs.lt))
 have HS2:=Lhd (fun W (hW:Below wr.heap.size wr W)=>(show (fun W=>W.cell? ⟨w.heap.size+1+1,0,none⟩=some (.string name)∧W.cell? ⟨w.heap.size+1+1,1,none⟩=some (.string src)∧W.cell? ⟨w.heap.size+1+1,2,none⟩=some (.string part)∧W.cell? ⟨w.heap.size+1+1,3,none⟩=some (.int .i64 fuel)∧W.cell? ⟨w.heap.size+1+1,4,none⟩=some (.slice Ap np cp)∧W.cell? ⟨w.heap.size+1+1,5,none⟩=some (.slice Ab nb cb)) W from by obtain⟨a0,a1,a2,a3,a4,a5,_⟩:=treeBox (HP.out W hW);exact⟨a0,a1,a2,a3,a4,a5⟩))
 have HS6:=Lhd (fun W (hW:Below wr.heap.size wr W)=>(show (fun W=>W.cell? ⟨w.heap.size+1+1,0,none⟩=some (.string name)∧W.cell? ⟨w.heap.size+1+1,1,none⟩=some (.string src)∧W.cell? ⟨w.heap.size+1+1,2,none⟩=some (.string part)∧W.cell? ⟨w.heap.size+1+1,3,none⟩=some (.int .i64 fuel)∧W.cell? ⟨w.heap.size+1+1,4,none⟩=some (.slice Ap np cp)∧W.cell? ⟨w.heap.size+1+1,5,none⟩=some (.slice Ab nb cb)) ((((((W.setCell ⟨w.heap.size+1,0,none⟩ (.string name)).setCell ⟨w.heap.size+1,1,none⟩ (.string src)).setCell ⟨w.heap.size+1,2,none⟩ (.string part)).setCell ⟨w.heap.size+1,3,none⟩ (.int .i64 fuel)).setCell ⟨w.heap.size+1,4,none⟩ (.slice Ap np cp)).setCell ⟨w.heap.size+1,5,none⟩ (.slice Ab nb cb)) from by
   have hb:=but_six W (w.heap.size+1) (.string name) (.string src) (.string part) (.int .i64 fuel) (.slice Ap np cp) (.slice Ab nb cb)
   have hl:=(HP.out W hW).lt
   obtain⟨a0,a1,a2,a3,a4,a5,_⟩:=treeBox (HP.out W hW)
   exact⟨(hb.cell (p:=⟨w.heap.size+1+1,0,none⟩) hl (by show ¬ (w.heap.size+1+1=w.heap.size+1);omega)).trans a0,(hb.cell (p:=⟨w.heap.size+1+1,1,none⟩) hl (by show ¬ (w.heap.size+1+1=w.heap.size+1);omega)).trans a1,(hb.cell (p:=⟨w.heap.size+1+1,2,none⟩) hl (by show ¬ (w.heap.size+1+1=w.heap.size+1);omega)).trans a2,(hb.cell (p:=⟨w.heap.size+1+1,3,none⟩) hl (by show ¬ (w.heap.size+1+1=w.heap.size+1);omega)).trans a3,(hb.cell (p:=⟨w.heap.size+1+1,4,none⟩) hl (by show ¬ (w.heap.size+1+1=w.heap.size+1);omega)).trans a4,(hb.cell (p:=⟨w.heap.size+1+1,5,none⟩) hl (by show ¬ (w.heap.size+1+1=w.heap.size+1);omega)).trans a5⟩))
 clear hI HH HBk hbx hrs
 have k0:decide (n≤300)=true:=by simpa using h1
 have k1:decide (d≤12)=true:=by simpa using h2
 subst h3
 subst h4
 have HV:Hid ((decide (n≤300)&&decide (d≤12)&&true&&false)=false):=Lhd (by simp[*])
 refine wp_region_held (S:=(fun W=>W.cell? ⟨w.heap.size+1+1,0,none⟩=some (.string name)∧W.cell? ⟨w.heap.size+1+1,1,none⟩=some (.string src)∧W.cell? ⟨w.heap.size+1+1,2,none⟩=some (.string part)∧W.cell? ⟨w.heap.size+1+1,3,none⟩=some (.int .i64 fuel)∧W.cell? ⟨w.heap.size+1+1,4,none⟩=some (.slice Ap np cp)∧W.cell? ⟨w.heap.size+1+1,5,none⟩=some (.slice Ab nb cb))) (by kernel_rfl) ?_
 change wpAnyH _ _ _ _ _ _ _ _ (World.drew _)
 have hB0:Below wr.heap.size wr wr.drew:=(Below.refl wr.heap.size wr).drew
 have HSS:=HS2.out _ hB0
 refine tk 0 (.agg #[.string name,.string src,.string part,.int .i64 fuel,.slice Ap np cp,.slice Ab nb cb]) rfl HSS ?_
 go_simp
 refine tk 1 (.int .i64 n) rfl HSS ?_
 go_simp
 refine tk 2 (.int .i64 d) rfl HSS ?_
 go_simp
 refine tk 3 (.int .i64 n) rfl HSS ?_
 go_simp
 refine tk 4 (.bool true) rfl HSS ?_
 go_simp
 refine tk 5 (.bool true) rfl HSS ?_
 go_simp
 refine tk 6 (.int .i64 d) rfl HSS ?_
 go_simp
 refine tk 7 (.bool true) rfl HSS ?_
 go_simp
 refine tk 8 (.bool true) rfl HSS ?_
 go_simp
 refine tk 9 (.bool true) rfl HSS ?_
 go_simp
 refine tk 10 (.agg #[.string name,.string src,.string part,.int .i64 fuel,.slice Ap np cp,.slice Ab nb cb]) rfl HSS ?_
 go_simp
 refine wpAnyH_ready (rs:=[11]) (by kernel_rfl) (by simp) ?_
 refine AllReadyH.cons rfl (fun K hK=>?_) AllReadyH.nil
 go_simp
 refine(HHh.out _ hB0).mono ?_
 rintro e v1 ⟨rfl,hb1⟩
 have hB1:Below wr.heap.size wr v1:=hB0.trans (hb1.mono hB0.size)
 have HSS:=HS2.out v1 hB1
 go_simp
 refine hK.out _ _ HSS (fun _=>?_);clear hK K
 refine tk 12 (.bool true) rfl HSS ?_
 go_simp
 refine tk 13 (.bool true) rfl HSS ?_
 go_simp
 refine tk 14 (.pointer (some ⟨w.heap.size+1+1,5,none⟩)) rfl HSS ?_
 go_simp
 refine tk 15 (.slice Ab nb cb) rfl HSS ?_
 go_simp
 refine wpAnyH_ready (rs:=[16]) (by kernel_rfl) (by simp) ?_
 refine AllReadyH.cons rfl (fun K hK=>?_) AllReadyH.nil
 go_simp
 refine(HBh.out _ hB1).mono ?_
 rintro e v2 ⟨rfl,hb2⟩
 have hB2:Below wr.heap.size wr v2:=hB1.trans (hb2.mono hB1.size)
 have HSS:=HS2.out v2 hB2
 go_simp
 refine hK.out _ _ HSS (fun _=>?_);clear hK K
 refine tk 17 (.bool false) rfl HSS ?_
 go_simp
 obtain⟨c0,c1,c2,c3,c4,c5,cl⟩:=treeBox (HR.out _ hB2)
 have cf:=(HR.out _ hB2).frozen
 refine wpAnyH_ready (rs:=[18]) (by kernel_rfl) (by simp) ?_
 refine AllReadyH.cons rfl (fun K hK=>?_) AllReadyH.nil
 go_simp
 have HSS:=HS6.out _ hB2
 refine hK.out _ _ HSS (fun _=>?_);clear hK K
 refine tk 19 (.int .i64 n) rfl HSS ?_
 go_simp
 refine tk 20 (.int .i64 d) rfl HSS ?_
 go_simp
 refine tk 21 (.bool false) rfl HSS ?_
 go_simp
 refine tk 22 (.bool true) rfl HSS ?_
 go_simp
 refine wpAnyH_done (by kernel_rfl) ?_ _
 exact HI.out _ _ _ _ _ _ _ _ _ _ _ _ _ _ _ _ _ _ _ _ _ _ _ hB2 rfl rfl (by rw[HV.out]) rfl
theorem leafQ4 (name src part:ByteArray) (fuel n d:Int) (Ap Ab:Option Addr) (np cp nb cb:Nat) (qh qb:Bool) (w wr:World) {x0 x1 x3 x4 x5 x6 x8 x11 x12 x13 x14 x15 x16 x17 x18 x19 x20 x21 x22 x23 x24 x25 x26 x27 x28 x29 x30 x31 x32 x33 x34 x35 x36 x37 x38 x39 x40 x41 x42 x43 x44 x45 x46 x47 x48 x49 x50 x51 x52 x53 x54 x55 x56 x57 x58 x59 x60 x61 x62 x63 x64 x65 x66 x67 x68 x69 x70 x71 x72 x73 x74 x75 x76 x77 x78 x79 x80 x81 x82 x83 x84 x85 x86 x87 x88 x89 x90 x91 x92 x93 x94 x95 x96 x97 x98 x99 x100 x101 x102 x103 x104 x105 x106 x107 x108 x109 x110 x111 x112 x113 x114 x115 x116 x117 x118 x119 x120 x121 x122 x123 x124 x125 x126 x127 x128 x129 x130 x131 x132 x133 x134 x135 x136 x137 x138 x139 x140 x141 x142:Value} {I:Act→World→Prop} {Q0:Exit→Act→World→Prop}
  (hbx:IsBlk wr (w.heap.size+1+1) 36 #[.string name,.string src,.string part,.int .i64 fuel,.slice Ap np cp,.slice Ab nb cb]) (hrs:IsBlk wr (w.heap.size+1) 36 #[.string { data:=#[] },.string { data:=#[] },.string { data:=#[] },.int .i64 0,.slice none 0 0,.slice none 0 0])
  (HH:∀ W,Below wr.heap.size wr W→Calls Tryz.prog 15 #[.agg #[.string name,.string src,.string part,.int .i64 fuel,.slice Ap np cp,.slice Ab nb cb]] W fun e w'=>e=.returned (.bool qh)∧Below W.heap.size W w')
  (HBk:∀ W,Below wr.heap.size wr W→Calls Tryz.prog 16 #[.slice Ab nb cb] W fun e w'=>e=.returned (.bool qb)∧Below W.heap.size W w') (h1:n≤300) (h2:d≤12) (h3:qh=true) (h4:qb=true)
  (hI:∀ (y3 y4 y5 y6 y125 y126 y127 y128 y129 y130 y131 y132 y133 y134 y135 y136 y137 y138 y139 y140 y141 y142:Value) (W0:World),Below wr.heap.size wr W0→y3=.int .i64 n→y4=.int .i64 d→y5=.bool (decide (n≤300)&&decide (d≤12)&&qh&&qb)→y6=.bool true→I ⟨#[x0,x1,.pointer (some ⟨w.heap.size+1,0,none⟩),y3,y4,y5,y6,.pointer (some ⟨w.heap.size+1+1,0,none⟩),x8,.int .i64 n,.int .i64 d,x11,x12,x13,x14,x15,x16,x17,x18,x19,x20,x21,x22,x23,x24,x25,x26,x27,x28,x29,x30,x31,x32,x33,x34,x35,x36,x37,x38,x39,x40,x41,x42,x43,x44,x45,x46,x47,x48,x49,x50,x51,x52,x53,x54,x55,x56,x57,x58,x59,x60,x61,x62,x63,x64,x65,x66,x67,x68,x69,x70,x71,x72,x73,x74,x75,x76,x77,x78,x79,x80,x81,x82,x83,x84,x85,x86,x87,x88,x89,x90,x91,x92,x93,x94,x95,x96,x97,x98,x99,x100,x101,x102,x103,x104,x105,x106,x107,x108,x109,x110,x111,x112,x113,x114,x115,x116,x117,x118,x119,x120,x121,x122,x123,x124,y125,y126,y127,y128,y129,y130,y131,y132,y133,y134,y135,y136,y137,y138,y139,y140,y141,y142],[]⟩ ((((((W0.setCell ⟨w.heap.size+1,0,none⟩ (.string name)).setCell ⟨w.heap.size+1,1,none⟩ (.string src)).setCell ⟨w.heap.size+1,2,none⟩ (.string part)).setCell ⟨w.heap.size+1,3,none⟩ (.int .i64 fuel)).setCell ⟨w.heap.size+1,4,none⟩ (.slice Ap np cp)).setCell ⟨w.heap.size+1,5,none⟩ (.slice Ab nb cb))) :
  Code.wp Tryz.prog (ofRegion 14) (Exit.then I (noPanic Q0)) ⟨#[x0,x1,.pointer (some ⟨w.heap.size+1,0,none⟩),x3,x4,x5,x6,.pointer (some ⟨w.heap.size+1+1,0,none⟩),x8,.int .i64 n,.int .i64 d,x11,x12,x13,x14,x15,x16,x17,x18,x19,x20,x21,x22,x23,x24,x25,x26,x27,x28,x29,x30,x31,x32,x33,x34,x35,x36,x37,x38,x39,x40,x41,x42,x43,x44,x45,x46,x47,x48,x49,x50,x51,x52,x53,x54,x55,x56,x57,x58,x59,x60,x61,x62,x63,x64,x65,x66,x67,x68,x69,x70,x71,x72,x73,x74,x75,x76,x77,x78,x79,x80,x81,x82,x83,x84,x85,x86,x87,x88,x89,x90,x91,x92,x93,x94,x95,x96,x97,x98,x99,x100,x101,x102,x103,x104,x105,x106,x107,x108,x109,x110,x111,x112,x113,x114,x115,x116,x117,x118,x119,x120,x121,x122,x123,x124,x125,x126,x127,x128,x129,x130,x131,x132,x133,x134,x135,x136,x137,x138,x139,x140,x141,x142],[]⟩ wr:=by
 conv=>arg 2;whnf
 have HI:=Lhd hI
 have HHh:=Lhd HH
 have HBh:=Lhd HBk
 have HP:=Lhd (fun W (hW:Below wr.heap.size wr W)=>hbx.as_was (hW.block _ hbx.lt))
 have HR:=Lhd (fun W (hW:Below wr.heap.size wr W)=>hrs.as_was (hW.block _ hrs.lt))
 have HS2:=Lhd (fun W (hW:Below wr.heap.size wr W)=>(show (fun W=>W.cell? ⟨w.heap.size+1+1,0,none⟩=some (.string name)∧W.cell? ⟨w.heap.size+1+1,1,none⟩=some (.string src)∧W.cell? ⟨w.heap.size+1+1,2,none⟩=some (.string part)∧W.cell? ⟨w.heap.size+1+1,3,none⟩=some (.int .i64 fuel)∧W.cell? ⟨w.heap.size+1+1,4,none⟩=some (.slice Ap np cp)∧W.cell? ⟨w.heap.size+1+1,5,none⟩=some (.slice Ab nb cb)) W from by obtain⟨a0,a1,a2,a3,a4,a5,_⟩:=treeBox (HP.out W hW);exact⟨a0,a1,a2,a3,a4,a5⟩))
 have HS6:=Lhd (fun W (hW:Below wr.heap.size wr W)=>(show (fun W=>W.cell? ⟨w.heap.size+1+1,0,none⟩=some (.string name)∧W.cell? ⟨w.heap.size+1+1,1,none⟩=some (.string src)∧W.cell? ⟨w.heap.size+1+1,2,none⟩=some (.string part)∧W.cell? ⟨w.heap.size+1+1,3,none⟩=some (.int .i64 fuel)∧W.cell? ⟨w.heap.size+1+1,4,none⟩=some (.slice Ap np cp)∧W.cell? ⟨w.heap.size+1+1,5,none⟩=some (.slice Ab nb cb)) ((((((W.setCell ⟨w.heap.size+1,0,none⟩ (.string name)).setCell ⟨w.heap.size+1,1,none⟩ (.string src)).setCell ⟨w.heap.size+1,2,none⟩ (.string part)).setCell ⟨w.heap.size+1,3,none⟩ (.int .i64 fuel)).setCell ⟨w.heap.size+1,4,none⟩ (.slice Ap np cp)).setCell ⟨w.heap.size+1,5,none⟩ (.slice Ab nb cb)) from by
   have hb:=but_six W (w.heap.size+1) (.string name) (.string src) (.string part) (.int .i64 fuel) (.slice Ap np cp) (.slice Ab nb cb)
   have hl:=(HP.out W hW).lt
   obtain⟨a0,a1,a2,a3,a4,a5,_⟩:=treeBox (HP.out W hW)
   exact⟨(hb.cell (p:=⟨w.heap.size+1+1,0,none⟩) hl (by show ¬ (w.heap.size+1+1=w.heap.size+1);omega)).trans a0,(hb.cell (p:=⟨w.heap.size+1+1,1,none⟩) hl (by show ¬ (w.heap.size+1+1=w.heap.size+1);omega)).trans a1,(hb.cell (p:=⟨w.heap.size+1+1,2,none⟩) hl (by show ¬ (w.heap.size+1+1=w.heap.size+1);omega)).trans a2,(hb.cell (p:=⟨w.heap.size+1+1,3,none⟩) hl (by show ¬ (w.heap.size+1+1=w.heap.size+1);omega)).trans a3,(hb.cell (p:=⟨w.heap.size+1+1,4,none⟩) hl (by show ¬ (w.heap.size+1+1=w.heap.size+1);omega)).trans a4,(hb.cell (p:=⟨w.heap.size+1+1,5,none⟩) hl (by show ¬ (w.heap.size+1+1=w.heap.size+1);omega)).trans a5⟩))
 clear hI HH HBk hbx hrs
 have k0:decide (n≤300)=true:=by simpa using h1
 have k1:decide (d≤12)=true:=by simpa using h2
 subst h3
 subst h4
 have HV:Hid ((decide (n≤300)&&decide (d≤12)&&true&&true)=true):=Lhd (by simp[*])
 refine wp_region_held (S:=(fun W=>W.cell? ⟨w.heap.size+1+1,0,none⟩=some (.string name)∧W.cell? ⟨w.heap.size+1+1,1,none⟩=some (.string src)∧W.cell? ⟨w.heap.size+1+1,2,none⟩=some (.string part)∧W.cell? ⟨w.heap.size+1+1,3,none⟩=some (.int .i64 fuel)∧W.cell? ⟨w.heap.size+1+1,4,none⟩=some (.slice Ap np cp)∧W.cell? ⟨w.heap.size+1+1,5,none⟩=some (.slice Ab nb cb))) (by kernel_rfl) ?_
 change wpAnyH _ _ _ _ _ _ _ _ (World.drew _)
 have hB0:Below wr.heap.size wr wr.drew:=(Below.refl wr.heap.size wr).drew
 have HSS:=HS2.out _ hB0
 refine tk 0 (.agg #[.string name,.string src,.string part,.int .i64 fuel,.slice Ap np cp,.slice Ab nb cb]) rfl HSS ?_
 go_simp
 refine tk 1 (.int .i64 n) rfl HSS ?_
 go_simp
 refine tk 2 (.int .i64 d) rfl HSS ?_
 go_simp
 refine tk 3 (.int .i64 n) rfl HSS ?_
 go_simp
 refine tk 4 (.bool true) rfl HSS ?_
 go_simp
 refine tk 5 (.bool true) rfl HSS ?_
 go_simp
 refine tk 6 (.int .i64 d) rfl HSS ?_
 go_simp
 refine tk 7 (.bool true) rfl HSS ?_
 go_simp
 refine tk 8 (.bool true) rfl HSS ?_
 go_simp
 refine tk 9 (.bool true) rfl HSS ?_
 go_simp
 refine tk 10 (.agg #[.string name,.string src,.string part,.int .i64 fuel,.slice Ap np cp,.slice Ab nb cb]) rfl HSS ?_
 go_simp
 refine wpAnyH_ready (rs:=[11]) (by kernel_rfl) (by simp) ?_
 refine AllReadyH.cons rfl (fun K hK=>?_) AllReadyH.nil
 go_simp
 refine(HHh.out _ hB0).mono ?_
 rintro e v1 ⟨rfl,hb1⟩
 have hB1:Below wr.heap.size wr v1:=hB0.trans (hb1.mono hB0.size)
 have HSS:=HS2.out v1 hB1
 go_simp
 refine hK.out _ _ HSS (fun _=>?_);clear hK K
 refine tk 12 (.bool true) rfl HSS ?_
 go_simp
 refine tk 13 (.bool true) rfl HSS ?_
 go_simp
 refine tk 14 (.pointer (some ⟨w.heap.size+1+1,5,none⟩)) rfl HSS ?_
 go_simp
 refine tk 15 (.slice Ab nb cb) rfl HSS ?_
 go_simp
 refine wpAnyH_ready (rs:=[16]) (by kernel_rfl) (by simp) ?_
 refine AllReadyH.cons rfl (fun K hK=>?_) AllReadyH.nil
 go_simp
 refine(HBh.out _ hB1).mono ?_
 rintro e v2 ⟨rfl,hb2⟩
 have hB2:Below wr.heap.size wr v2:=hB1.trans (hb2.mono hB1.size)
 have HSS:=HS2.out v2 hB2
 go_simp
 refine hK.out _ _ HSS (fun _=>?_);clear hK K
 refine tk 17 (.bool true) rfl HSS ?_
 go_simp
 obtain⟨c0,c1,c2,c3,c4,c5,cl⟩:=treeBox (HR.out _ hB2)
 have cf:=(HR.out _ hB2).frozen
 refine wpAnyH_ready (rs:=[18]) (by kernel_rfl) (by simp) ?_
 refine AllReadyH.cons rfl (fun K hK=>?_) AllReadyH.nil
 go_simp
 have HSS:=HS6.out _ hB2
 refine hK.out _ _ HSS (fun _=>?_);clear hK K
 refine tk 19 (.int .i64 n) rfl HSS ?_
 go_simp
 refine tk 20 (.int .i64 d) rfl HSS ?_
 go_simp
 refine tk 21 (.bool true) rfl HSS ?_
 go_simp
 refine tk 22 (.bool true) rfl HSS ?_
 go_simp
 refine wpAnyH_done (by kernel_rfl) ?_ _
 exact HI.out _ _ _ _ _ _ _ _ _ _ _ _ _ _ _ _ _ _ _ _ _ _ _ hB2 rfl rfl (by rw[HV.out]) rfl
theorem regionQ (name src part:ByteArray) (fuel n d:Int) (Ap Ab:Option Addr) (np cp nb cb:Nat) (qh qb:Bool) (w wr:World) {x0 x1 x3 x4 x5 x6 x8 x11 x12 x13 x14 x15 x16 x17 x18 x19 x20 x21 x22 x23 x24 x25 x26 x27 x28 x29 x30 x31 x32 x33 x34 x35 x36 x37 x38 x39 x40 x41 x42 x43 x44 x45 x46 x47 x48 x49 x50 x51 x52 x53 x54 x55 x56 x57 x58 x59 x60 x61 x62 x63 x64 x65 x66 x67 x68 x69 x70 x71 x72 x73 x74 x75 x76 x77 x78 x79 x80 x81 x82 x83 x84 x85 x86 x87 x88 x89 x90 x91 x92 x93 x94 x95 x96 x97 x98 x99 x100 x101 x102 x103 x104 x105 x106 x107 x108 x109 x110 x111 x112 x113 x114 x115 x116 x117 x118 x119 x120 x121 x122 x123 x124 x125 x126 x127 x128 x129 x130 x131 x132 x133 x134 x135 x136 x137 x138 x139 x140 x141 x142:Value} {I:Act→World→Prop} {Q0:Exit→Act→World→Prop}
  (hbx:IsBlk wr (w.heap.size+1+1) 36 #[.string name,.string src,.string part,.int .i64 fuel,.slice Ap np cp,.slice Ab nb cb]) (hrs:IsBlk wr (w.heap.size+1) 36 #[.string { data:=#[] },.string { data:=#[] },.string { data:=#[] },.int .i64 0,.slice none 0 0,.slice none 0 0])
  (HH:∀ W,Below wr.heap.size wr W→Calls Tryz.prog 15 #[.agg #[.string name,.string src,.string part,.int .i64 fuel,.slice Ap np cp,.slice Ab nb cb]] W fun e w'=>e=.returned (.bool qh)∧Below W.heap.size W w')
  (HBk:∀ W,Below wr.heap.size wr W→Calls Tryz.prog 16 #[.slice Ab nb cb] W fun e w'=>e=.returned (.bool qb)∧Below W.heap.size W w')
  (hI:∀ (y3 y4 y5 y6 y125 y126 y127 y128 y129 y130 y131 y132 y133 y134 y135 y136 y137 y138 y139 y140 y141 y142:Value) (W0:World),Below wr.heap.size wr W0→y3=.int .i64 n→y4=.int .i64 d→y5=.bool (decide (n≤300)&&decide (d≤12)&&qh&&qb)→y6=.bool true→I ⟨#[x0,x1,.pointer (some ⟨w.heap.size+1,0,none⟩),y3,y4,y5,y6,.pointer (some ⟨w.heap.size+1+1,0,none⟩),x8,.int .i64 n,.int .i64 d,x11,x12,x13,x14,x15,x16,x17,x18,x19,x20,x21,x22,x23,x24,x25,x26,x27,x28,x29,x30,x31,x32,x33,x34,x35,x36,x37,x38,x39,x40,x41,x42,x43,x44,x45,x46,x47,x48,x49,x50,x51,x52,x53,x54,x55,x56,x57,x58,x59,x60,x61,x62,x63,x64,x65,x66,x67,x68,x69,x70,x71,x72,x73,x74,x75,x76,x77,x78,x79,x80,x81,x82,x83,x84,x85,x86,x87,x88,x89,x90,x91,x92,x93,x94,x95,x96,x97,x98,x99,x100,x101,x102,x103,x104,x105,x106,x107,x108,x109,x110,x111,x112,x113,x114,x115,x116,x117,x118,x119,x120,x121,x122,x123,x124,y125,y126,y127,y128,y129,y130,y131,y132,y133,y134,y135,y136,y137,y138,y139,y140,y141,y142],[]⟩ ((((((W0.setCell ⟨w.heap.size+1,0,none⟩ (.string name)).setCell ⟨w.heap.size+1,1,none⟩ (.string src)).setCell ⟨w.heap.size+1,2,none⟩ (.string part)).setCell ⟨w.heap.size+1,3,none⟩ (.int .i64 fuel)).setCell ⟨w.heap.size+1,4,none⟩ (.slice Ap np cp)).setCell ⟨w.heap.size+1,5,none⟩ (.slice Ab nb cb))) :
  Code.wp Tryz.prog (ofRegion 14) (Exit.then I (noPanic Q0)) ⟨#[x0,x1,.pointer (some ⟨w.heap.size+1,0,none⟩),x3,x4,x5,x6,.pointer (some ⟨w.heap.size+1+1,0,none⟩),x8,.int .i64 n,.int .i64 d,x11,x12,x13,x14,x15,x16,x17,x18,x19,x20,x21,x22,x23,x24,x25,x26,x27,x28,x29,x30,x31,x32,x33,x34,x35,x36,x37,x38,x39,x40,x41,x42,x43,x44,x45,x46,x47,x48,x49,x50,x51,x52,x53,x54,x55,x56,x57,x58,x59,x60,x61,x62,x63,x64,x65,x66,x67,x68,x69,x70,x71,x72,x73,x74,x75,x76,x77,x78,x79,x80,x81,x82,x83,x84,x85,x86,x87,x88,x89,x90,x91,x92,x93,x94,x95,x96,x97,x98,x99,x100,x101,x102,x103,x104,x105,x106,x107,x108,x109,x110,x111,x112,x113,x114,x115,x116,x117,x118,x119,x120,x121,x122,x123,x124,x125,x126,x127,x128,x129,x130,x131,x132,x133,x134,x135,x136,x137,x138,x139,x140,x141,x142],[]⟩ wr:=by
 by_cases h1:n≤300
 rotate_left
 ·exact leafQ0 name src part fuel n d Ap Ab np cp nb cb qh qb w wr hbx hrs HH HBk h1 hI
 by_cases h2:d≤12
 rotate_left
 ·exact leafQ1 name src part fuel n d Ap Ab np cp nb cb qh qb w wr hbx hrs HH HBk h1 h2 hI
 cases h3:qh
 ·subst h3;exact leafQ2 name src part fuel n d Ap Ab np cp nb cb false qb w wr hbx hrs HH HBk h1 h2 rfl hI
 subst h3
 cases h4:qb
 ·subst h4;exact leafQ3 name src part fuel n d Ap Ab np cp nb cb true false w wr hbx hrs HH HBk h1 h2 rfl rfl hI
 subst h4
 exact leafQ4 name src part fuel n d Ap Ab np cp nb cb true true w wr hbx hrs HH HBk h1 h2 rfl rfl hI
end Go.Proofs.YtmfcmpnlipnopaaGreat
