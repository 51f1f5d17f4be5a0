/- Texts of this claim, one behind the other: Ask20c, LAnsw20, Post, Open4, LBudg20. -/
import Derived.Test.YtfjhjennfiihhaaGreatQJobAnswersJobBudget6
set_option maxRecDepth 100000
set_option maxHeartbeats 16000000
namespace Go.Proofs.YtfjhjennfiihhaaGreat
section
open Go Go.RowKit
theorem askFarCl (po:Option Addr) (no co:Nat) (O:List Int) (pt:Option Addr) (nt ct:Nat) (T:List Int) (pr:Option Addr) (nr cr:Nat) (R:List Int) (pv:Option Addr) (nv cv:Nat) (V:List Int) (n s t gb:Nat) (w:World) (hO:Rd w 1 po no (encI O)) (hT:Rd w 1 pt nt (encI T)) (hR:Rd w 1 pr nr (encI R)) (hV:Rd w 1 pv nv (encI V)) (hct:nt≤ct) (hcv:nv≤cv) (hB:Blk w gb 27 #[.slice po no co,.slice pt nt ct,.slice pr nr cr,.slice pv nv cv]) (hck:checkR O T R V=true) (hn:O.length=n+1) (hs:s<n) (ht:t<n) :
  Calls Tryz.prog 66 #[.int .i64 s,.int .i64 t,.pointer (some ⟨gb,0,none⟩)] w fun e w'=>e=.returned (.tuple #[.int .i64 (distN (lev (rowL O T) n s t)),.bool (distB (lev (rowL O T) n s t)),.int .i64 0])∧Ext w w':=by
 have HD:=Lib.hid (DistG_yes po no co O pt nt ct T pr nr cr R pv nv cv V n s t w hO hT hR hV hct hcv hck hn hs ht)
 have b0:=hB.cell 0;have b1:=hB.cell 1;have b2:=hB.cell 2;have b3:=hB.cell 3;have bz:=hB.lt
 clear hB hO hT hR hV
 generalize lev (rowL O T) n s t=X at *
 go_enter Tryz.func66,Tryz.ntmps66
 go_wp2_with (go_at_call 67;go_must (refine HD.out.mono ?_;rintro e w1 ⟨rfl,hb⟩;have HB:=Lib.hid hb;clear hb))
 go_ret3
 exact⟨rfl,HB.out⟩
theorem askNearCl (k f t:Int) (pw:Option Addr) (nw cw:Nat) (ws:List ByteArray) (rad most:Int) (po:Option Addr) (no co:Nat) (O:List Int) (pt:Option Addr) (nt ct:Nat) (T:List Int) (pr:Option Addr) (nr cr:Nat) (R:List Int) (pv:Option Addr) (nv cv:Nat) (V:List Int) (pl:Option Addr) (nl cl:Nat) (hs:List Hd) (L:List Po) (gb gl:Nat) (w:World) (hO:Rd w 1 po no (encI O)) (hT:Rd w 1 pt nt (encI T)) (hR:Rd w 1 pr nr (encI R)) (hV:Rd w 1 pv nv (encI V)) (hct:nt≤ct) (hcv:nv≤cv) (hB:Blk w gb 27 #[.slice po no co,.slice pt nt ct,.slice pr nr cr,.slice pv nv cv]) (hBl:Blk w gl 28 #[.slice pl nl cl])
  (hL:RdP w pl nl hs L) (hok:PoOk L) (hW:Rd w 1 pw nw (encS ws)) (hcw:nw≤cw) (hnw:nw≤100) (hck:checkR O T R V=true) (hc:nearC true O f ws rad=0) :
  Calls Tryz.prog 68 #[.agg #[.int .i64 k,.int .i64 f,.int .i64 t,.slice pw nw cw,.int .i64 rad,.int .i64 most],.pointer (some ⟨gb,0,none⟩),.pointer (some ⟨gl,0,none⟩)] w fun e w'=>∃ q c',e=.returned (.tuple #[.slice q (nearR true O T R V f L ws rad).length c',.int .i64 0])∧Sep w w' [.own 105 2 q (nearR true O T R V f L ws rad).length c' (encE (nearR true O T R V f L ws rad))]:=by
 have S0:=Lib.hid ((Sep.start w).al #[.int .i64 k,.int .i64 f,.int .i64 t,.slice pw nw cw,.int .i64 rad,.int .i64 most] 24 w.heap.size rfl)
 have HN:=Lib.hid (fun W (h:Ext w W)=>NHitsG po no co O pt nt ct T pr nr cr R pv nv cv V pl nl cl hs L pw nw cw ws f rad W (hO.ext h) (hT.ext h) (hR.ext h) (hV.ext h) hct hcv (hL.ext h) hok (hW.ext h) hcw hnw)
 rw [hck,hc] at HN
 have b0:=hB.cell 0;have b1:=hB.cell 1;have b2:=hB.cell 2;have b3:=hB.cell 3;have bz:=hB.lt
 have l0:=hBl.cell 0
 have lz:=hBl.lt
 clear hB hO hT hR hV hBl hL hW hok
 generalize nearR true O T R V f L ws rad=X at *
 go_enter Tryz.func68,Tryz.ntmps68
 go_wp2_with (go_at_call 69;go_must (refine(HN.out _ S0.out.ext).mono ?_;rintro e w1 ⟨q1,c1,rfl,Z⟩;have S1:=Lib.hid (S0.out.comp Z);clear Z))
 go_ret2
 exact⟨q1,c1,rfl,S1.out.pick [0] (by decide) rfl⟩
theorem AskErr (k f t:Int) (pw:Option Addr) (nw cw:Nat) (_:List ByteArray) (rad most:Int) (po:Option Addr) (no co:Nat) (_:List Int) (pt:Option Addr) (nt ct:Nat) (_:List Int) (pr:Option Addr) (nr cr:Nat) (_:List Int) (pv:Option Addr) (nv cv:Nat) (_:List Int) (pl:Option Addr) (nl cl:Nat) (E:Int) (w:World) (hE:E≠0)
  (HCK:∀ W,Ext w W→Calls Tryz.prog 49 #[.agg #[.int .i64 k,.int .i64 f,.int .i64 t,.slice pw nw cw,.int .i64 rad,.int .i64 most],.agg #[.slice po no co,.slice pt nt ct,.slice pr nr cr,.slice pv nv cv]] W fun e w'=>e=.returned (.int .i64 E)∧Ext W w') :
  Calls Tryz.prog 40 #[.agg #[.int .i64 k,.int .i64 f,.int .i64 t,.slice pw nw cw,.int .i64 rad,.int .i64 most],.agg #[.slice po no co,.slice pt nt ct,.slice pr nr cr,.slice pv nv cv],.slice pl nl cl] w (AnsQ false 0 [] E w):=by
 have S0:=Lib.hid (((((Sep.start w).al #[.int .i64 k,.int .i64 f,.int .i64 t,.slice pw nw cw,.int .i64 rad,.int .i64 most] 24 w.heap.size rfl).al #[.slice po no co,.slice pt nt ct,.slice pr nr cr,.slice pv nv cv] 27 (w.heap.size+1) (by simp)).al #[.slice pl nl cl] 28 (w.heap.size+1+1) (by simp)).al #[.bool false,.int .i64 0,.slice none 0 0] 34 (w.heap.size+1+1+1) (by simp))
 have HCJ:=Lib.hid HCK
 have d1:decide (E=0)=false:=by simpa using hE
 have d2:(E == 0)=false:=by simpa using hE
 clear hE HCK
 go_enter Tryz.func40,Tryz.ntmps40
 go_wp2_with (go_at_call 49;go_must (refine(HCJ.out _ S0.out.ext).mono ?_;rintro e w1 ⟨rfl,hb⟩;have S1:=Lib.hid (S0.out.call hb);obtain⟨y0,y1,y2,yz,f0,f1,f2⟩:=bkc0c1c2lz0z1z2 (S1.out.blk 0 rfl);obtain⟨a0,a1,a2,a3,a4,a5,az⟩:=bkc0c1c2c3c4c5l (S1.out.blk 3 rfl);clear hb))
 have S9:=Lib.hid (((S1.out.set 0 rfl 0 (.bool false)).set 0 rfl 1 (.int .i64 0)).set 0 rfl 2 (.slice none 0 0))
 obtain⟨x0,x1,x2⟩:=bkc0c1c2 (S9.out.blk 0 rfl)
 refine bodyPost_ret (v:=.tuple #[.agg #[.bool false,.int .i64 0,.slice none 0 0],.int .i64 E]) (by simp [results,Tryz.results40,go_sem,x0,x1,x2,Tryz.sizeOf34,Tryz.isAgg34]) rfl ?_
 exact ansQ_nil rfl S9.out.ext
theorem AskK1 (f t:Int) (pw:Option Addr) (nw cw:Nat) (rad most:Int) (po:Option Addr) (no co:Nat) (_:List Int) (pt:Option Addr) (nt ct:Nat) (_:List Int) (pr:Option Addr) (nr cr:Nat) (_:List Int) (pv:Option Addr) (nv cv:Nat) (_:List Int) (pl:Option Addr) (nl cl:Nat) (b:Bool) (d:Int) (F:List (Int × Int)) (w:World) (HCK:∀ W,Ext w W→Calls Tryz.prog 49 #[.agg #[.int .i64 1,.int .i64 f,.int .i64 t,.slice pw nw cw,.int .i64 rad,.int .i64 most],.agg #[.slice po no co,.slice pt nt ct,.slice pr nr cr,.slice pv nv cv]] W fun e w'=>e=.returned (.int .i64 0)∧Ext W w')
  (HM:∀ W,Ext w W→Blk W (w.heap.size+1) 27 #[.slice po no co,.slice pt nt ct,.slice pr nr cr,.slice pv nv cv]→Blk W (w.heap.size+1+1) 28 #[.slice pl nl cl]→Calls Tryz.prog 118 #[.agg #[.int .i64 1,.int .i64 f,.int .i64 t,.slice pw nw cw,.int .i64 rad,.int .i64 most,.func (.func 66) #[] #[.pointer (some ⟨w.heap.size+1,0,none⟩)],(.func (.func 68) #[] #[.pointer (some ⟨w.heap.size+1,0,none⟩),.pointer (some ⟨w.heap.size+1+1,0,none⟩)])]] W (AnsQ b d F 0 W)):Calls Tryz.prog 40 #[.agg #[.int .i64 1,.int .i64 f,.int .i64 t,.slice pw nw cw,.int .i64 rad,.int .i64 most],.agg #[.slice po no co,.slice pt nt ct,.slice pr nr cr,.slice pv nv cv],.slice pl nl cl] w (AnsQ b d F 0 w):=by
 have S0:=Lib.hid (((((Sep.start w).al #[.int .i64 1,.int .i64 f,.int .i64 t,.slice pw nw cw,.int .i64 rad,.int .i64 most] 24 w.heap.size rfl).al #[.slice po no co,.slice pt nt ct,.slice pr nr cr,.slice pv nv cv] 27 (w.heap.size+1) (by simp)).al #[.slice pl nl cl] 28 (w.heap.size+1+1) (by simp)).al #[.bool false,.int .i64 0,.slice none 0 0] 34 (w.heap.size+1+1+1) (by simp))
 have HCJ:=Lib.hid HCK
 have HMM:=Lib.hid HM
 clear HCK HM
 go_enter Tryz.func40,Tryz.ntmps40
 go_wp2_with (first | (go_at_call 70;go_must (refine(ansA1 f t pw nw cw rad most _ _ b d F 0 _ (fun W h=>HMM.out W (Ext.trans S1.out.ext h) ((S1.out.blk 2 rfl).ext h) ((S1.out.blk 1 rfl).ext h))).mono ?_;rintro e w4 ⟨q4,c4,rfl,Z⟩;have S4:=Lib.hid (S1.out.comp Z);clear a0 a1 a2 a3 a4 a5 az y0 y1 y2 yz f0 f1 f2;obtain⟨y0,y1,y2,yz,f0,f1,f2⟩:=bkc0c1c2lz0z1z2 (S4.out.blk 1 rfl);clear Z)) | (go_at_call 49;go_must (refine(HCJ.out _ S0.out.ext).mono ?_;rintro e w1 ⟨rfl,hb⟩;have S1:=Lib.hid (S0.out.call hb);obtain⟨y0,y1,y2,yz,f0,f1,f2⟩:=bkc0c1c2lz0z1z2 (S1.out.blk 0 rfl);obtain⟨a0,a1,a2,a3,a4,a5,az⟩:=bkc0c1c2c3c4c5l (S1.out.blk 3 rfl);clear hb)))
 have S9:=Lib.hid (((S4.out.set 1 rfl 0 (.bool b)).set 1 rfl 1 (.int .i64 d)).set 1 rfl 2 (.slice q4 F.length c4))
 obtain⟨x0,x1,x2⟩:=bkc0c1c2 (S9.out.blk 1 rfl)
 refine bodyPost_ret (v:=.tuple #[.agg #[.bool b,.int .i64 d,.slice q4 F.length c4],.int .i64 0]) (by simp [results,Tryz.results40,go_sem,x0,x1,x2,Tryz.sizeOf34,Tryz.isAgg34]) rfl ?_
 exact⟨q4,c4,rfl,S9.out.pick [0] (by decide) rfl⟩
theorem AskK2 (f t:Int) (pw:Option Addr) (nw cw:Nat) (rad most:Int) (po:Option Addr) (no co:Nat) (_:List Int) (pt:Option Addr) (nt ct:Nat) (_:List Int) (pr:Option Addr) (nr cr:Nat) (_:List Int) (pv:Option Addr) (nv cv:Nat) (_:List Int) (pl:Option Addr) (nl cl:Nat) (b:Bool) (d:Int) (F:List (Int × Int)) (w:World) (HCK:∀ W,Ext w W→Calls Tryz.prog 49 #[.agg #[.int .i64 2,.int .i64 f,.int .i64 t,.slice pw nw cw,.int .i64 rad,.int .i64 most],.agg #[.slice po no co,.slice pt nt ct,.slice pr nr cr,.slice pv nv cv]] W fun e w'=>e=.returned (.int .i64 0)∧Ext W w')
  (HM:∀ W,Ext w W→Blk W (w.heap.size+1) 27 #[.slice po no co,.slice pt nt ct,.slice pr nr cr,.slice pv nv cv]→Blk W (w.heap.size+1+1) 28 #[.slice pl nl cl]→Calls Tryz.prog 119 #[.agg #[.int .i64 2,.int .i64 f,.int .i64 t,.slice pw nw cw,.int .i64 rad,.int .i64 most,.func (.func 66) #[] #[.pointer (some ⟨w.heap.size+1,0,none⟩)],(.func (.func 68) #[] #[.pointer (some ⟨w.heap.size+1,0,none⟩),.pointer (some ⟨w.heap.size+1+1,0,none⟩)])]] W (AnsQ b d F 0 W)):Calls Tryz.prog 40 #[.agg #[.int .i64 2,.int .i64 f,.int .i64 t,.slice pw nw cw,.int .i64 rad,.int .i64 most],.agg #[.slice po no co,.slice pt nt ct,.slice pr nr cr,.slice pv nv cv],.slice pl nl cl] w (AnsQ b d F 0 w):=by
 have S0:=Lib.hid (((((Sep.start w).al #[.int .i64 2,.int .i64 f,.int .i64 t,.slice pw nw cw,.int .i64 rad,.int .i64 most] 24 w.heap.size rfl).al #[.slice po no co,.slice pt nt ct,.slice pr nr cr,.slice pv nv cv] 27 (w.heap.size+1) (by simp)).al #[.slice pl nl cl] 28 (w.heap.size+1+1) (by simp)).al #[.bool false,.int .i64 0,.slice none 0 0] 34 (w.heap.size+1+1+1) (by simp))
 have HCJ:=Lib.hid HCK
 have HMM:=Lib.hid HM
 clear HCK HM
 go_enter Tryz.func40,Tryz.ntmps40
 go_wp2_with (first | (go_at_call 70;go_must (refine(ansA2 f t pw nw cw rad most _ _ b d F 0 _ (fun W h=>HMM.out W (Ext.trans S1.out.ext h) ((S1.out.blk 2 rfl).ext h) ((S1.out.blk 1 rfl).ext h))).mono ?_;rintro e w4 ⟨q4,c4,rfl,Z⟩;have S4:=Lib.hid (S1.out.comp Z);clear a0 a1 a2 a3 a4 a5 az y0 y1 y2 yz f0 f1 f2;obtain⟨y0,y1,y2,yz,f0,f1,f2⟩:=bkc0c1c2lz0z1z2 (S4.out.blk 1 rfl);clear Z)) | (go_at_call 49;go_must (refine(HCJ.out _ S0.out.ext).mono ?_;rintro e w1 ⟨rfl,hb⟩;have S1:=Lib.hid (S0.out.call hb);obtain⟨y0,y1,y2,yz,f0,f1,f2⟩:=bkc0c1c2lz0z1z2 (S1.out.blk 0 rfl);obtain⟨a0,a1,a2,a3,a4,a5,az⟩:=bkc0c1c2c3c4c5l (S1.out.blk 3 rfl);clear hb)))
 have S9:=Lib.hid (((S4.out.set 1 rfl 0 (.bool b)).set 1 rfl 1 (.int .i64 d)).set 1 rfl 2 (.slice q4 F.length c4))
 obtain⟨x0,x1,x2⟩:=bkc0c1c2 (S9.out.blk 1 rfl)
 refine bodyPost_ret (v:=.tuple #[.agg #[.bool b,.int .i64 d,.slice q4 F.length c4],.int .i64 0]) (by simp [results,Tryz.results40,go_sem,x0,x1,x2,Tryz.sizeOf34,Tryz.isAgg34]) rfl ?_
 exact⟨q4,c4,rfl,S9.out.pick [0] (by decide) rfl⟩
theorem AskK3 (f t:Int) (pw:Option Addr) (nw cw:Nat) (rad most:Int) (po:Option Addr) (no co:Nat) (_:List Int) (pt:Option Addr) (nt ct:Nat) (_:List Int) (pr:Option Addr) (nr cr:Nat) (_:List Int) (pv:Option Addr) (nv cv:Nat) (_:List Int) (pl:Option Addr) (nl cl:Nat) (b:Bool) (d:Int) (F:List (Int × Int)) (w:World) (HCK:∀ W,Ext w W→Calls Tryz.prog 49 #[.agg #[.int .i64 3,.int .i64 f,.int .i64 t,.slice pw nw cw,.int .i64 rad,.int .i64 most],.agg #[.slice po no co,.slice pt nt ct,.slice pr nr cr,.slice pv nv cv]] W fun e w'=>e=.returned (.int .i64 0)∧Ext W w')
  (HM:∀ W,Ext w W→Blk W (w.heap.size+1) 27 #[.slice po no co,.slice pt nt ct,.slice pr nr cr,.slice pv nv cv]→Blk W (w.heap.size+1+1) 28 #[.slice pl nl cl]→Calls Tryz.prog 120 #[.agg #[.int .i64 3,.int .i64 f,.int .i64 t,.slice pw nw cw,.int .i64 rad,.int .i64 most,.func (.func 66) #[] #[.pointer (some ⟨w.heap.size+1,0,none⟩)],(.func (.func 68) #[] #[.pointer (some ⟨w.heap.size+1,0,none⟩),.pointer (some ⟨w.heap.size+1+1,0,none⟩)])]] W (AnsQ b d F 0 W)):Calls Tryz.prog 40 #[.agg #[.int .i64 3,.int .i64 f,.int .i64 t,.slice pw nw cw,.int .i64 rad,.int .i64 most],.agg #[.slice po no co,.slice pt nt ct,.slice pr nr cr,.slice pv nv cv],.slice pl nl cl] w (AnsQ b d F 0 w):=by
 have S0:=Lib.hid (((((Sep.start w).al #[.int .i64 3,.int .i64 f,.int .i64 t,.slice pw nw cw,.int .i64 rad,.int .i64 most] 24 w.heap.size rfl).al #[.slice po no co,.slice pt nt ct,.slice pr nr cr,.slice pv nv cv] 27 (w.heap.size+1) (by simp)).al #[.slice pl nl cl] 28 (w.heap.size+1+1) (by simp)).al #[.bool false,.int .i64 0,.slice none 0 0] 34 (w.heap.size+1+1+1) (by simp))
 have HCJ:=Lib.hid HCK
 have HMM:=Lib.hid HM
 clear HCK HM
 go_enter Tryz.func40,Tryz.ntmps40
 go_wp2_with (first | (go_at_call 70;go_must (refine(ansA3 f t pw nw cw rad most _ _ b d F 0 _ (fun W h=>HMM.out W (Ext.trans S1.out.ext h) ((S1.out.blk 2 rfl).ext h) ((S1.out.blk 1 rfl).ext h))).mono ?_;rintro e w4 ⟨q4,c4,rfl,Z⟩;have S4:=Lib.hid (S1.out.comp Z);clear a0 a1 a2 a3 a4 a5 az y0 y1 y2 yz f0 f1 f2;obtain⟨y0,y1,y2,yz,f0,f1,f2⟩:=bkc0c1c2lz0z1z2 (S4.out.blk 1 rfl);clear Z)) | (go_at_call 49;go_must (refine(HCJ.out _ S0.out.ext).mono ?_;rintro e w1 ⟨rfl,hb⟩;have S1:=Lib.hid (S0.out.call hb);obtain⟨y0,y1,y2,yz,f0,f1,f2⟩:=bkc0c1c2lz0z1z2 (S1.out.blk 0 rfl);obtain⟨a0,a1,a2,a3,a4,a5,az⟩:=bkc0c1c2c3c4c5l (S1.out.blk 3 rfl);clear hb)))
 have S9:=Lib.hid (((S4.out.set 1 rfl 0 (.bool b)).set 1 rfl 1 (.int .i64 d)).set 1 rfl 2 (.slice q4 F.length c4))
 obtain⟨x0,x1,x2⟩:=bkc0c1c2 (S9.out.blk 1 rfl)
 refine bodyPost_ret (v:=.tuple #[.agg #[.bool b,.int .i64 d,.slice q4 F.length c4],.int .i64 0]) (by simp [results,Tryz.results40,go_sem,x0,x1,x2,Tryz.sizeOf34,Tryz.isAgg34]) rfl ?_
 exact⟨q4,c4,rfl,S9.out.pick [0] (by decide) rfl⟩
theorem AskG (k f t:Int) (pw:Option Addr) (nw cw:Nat) (ws:List ByteArray) (rad most:Int) (po:Option Addr) (no co:Nat) (O:List Int) (pt:Option Addr) (nt ct:Nat) (T:List Int) (pr:Option Addr) (nr cr:Nat) (R:List Int) (pv:Option Addr) (nv cv:Nat) (V:List Int) (pl:Option Addr) (nl cl:Nat) (hs:List Hd) (L:List Po) (w:World) (hO:Rd w 1 po no (encI O)) (hT:Rd w 1 pt nt (encI T)) (hR:Rd w 1 pr nr (encI R)) (hV:Rd w 1 pv nv (encI V)) (hct:nt≤ct) (hcv:nv≤cv)
  (hL:RdP w pl nl hs L) (hW:Rd w 1 pw nw (encS ws)) (h200:no≤200) (hz:∀ s∈ws,s.size≤1000000) (hcw:nw≤cw) (hnw:nw≤100) (hok:PoOk L) :
  Calls Tryz.prog 40 #[.agg #[.int .i64 k,.int .i64 f,.int .i64 t,.slice pw nw cw,.int .i64 rad,.int .i64 most],.agg #[.slice po no co,.slice pt nt ct,.slice pr nr cr,.slice pv nv cv],.slice pl nl cl] w fun x w'=>∃ b d F e,AskS O T R V L k f t ws rad most b d F e∧AnsQ b d F e w x w':=by
 have hno:=hO.nI
 have HCJ:=fun W (h:Ext w W)=>CheckJ k f t pw nw cw ws rad most po no co O pt nt ct T pr nr cr R pv nv cv V W (hO.ext h) (hT.ext h) (hR.ext h) (hV.ext h) hct hcv (hW.ext h) hz (by omega)
 rw [hno] at HCJ
 by_cases h0:chkJ (checkR O T R V) k f t ws rad most O.length=0
 ·rw [h0] at HCJ
  rw [← hno] at HCJ
  obtain⟨hck,hq,n,hn,f0,f1,hcs⟩:=chkJ_facts h0
  obtain⟨s,rfl⟩:∃ s:Nat,f=(s:Int):=⟨f.toNat,by omega⟩
  have hO1:O.length - 1=n:=by omega
  rcases hcs with ⟨hk,t0,t1⟩ | ⟨rfl,w1,w8,r0,r2,m1,m2⟩
  ·obtain⟨u,rfl⟩:∃ u:Nat,t=(u:Int):=⟨t.toNat,by omega⟩
   have HF:=fun (gb:Nat) W (h:Ext w W) hB=>askFarCl po no co O pt nt ct T pr nr cr R pv nv cv V n s u gb W (hO.ext h) (hT.ext h) (hR.ext h) (hV.ext h) hct hcv hB hck hn (by omega) (by omega)
   rcases hk with rfl | rfl
   ·refine(AskK1 (s:Int) (u:Int) pw nw cw rad most po no co O pt nt ct T pr nr cr R pv nv cv V pl nl cl _ _ [] w HCJ (fun W h hB hBl=>distA 1 (s:Int) (u:Int) pw nw cw rad most _ _ _ _ 0 W (fun W2 h2=>HF _ W2 (Ext.trans h h2) (hB.ext h2)))).mono ?_
    intro x w' hx
    exact⟨_,_,[],0,⟨h0.symm,fun h=>absurd rfl h,fun _=>⟨fun _=>⟨by rw [hO1,Int.toNat_natCast,Int.toNat_natCast],by rw [hO1,Int.toNat_natCast,Int.toNat_natCast],rfl⟩,fun h=>absurd h (by decide),fun h=>absurd h (by decide)⟩⟩,hx⟩
   ·refine(AskK2 (s:Int) (u:Int) pw nw cw rad most po no co O pt nt ct T pr nr cr R pv nv cv V pl nl cl _ 0 [] w HCJ (fun W h hB hBl=>reachA 2 (s:Int) (u:Int) pw nw cw rad most _ _ _ _ 0 W (fun W2 h2=>HF _ W2 (Ext.trans h h2) (hB.ext h2)))).mono ?_
    intro x w' hx
    exact⟨_,0,[],0,⟨h0.symm,fun h=>absurd rfl h,fun _=>⟨fun h=>absurd h (by decide),fun _=>⟨by rw [hO1,Int.toNat_natCast,Int.toNat_natCast],rfl,rfl⟩,fun h=>absurd h (by decide)⟩⟩,hx⟩
  ·have hc:=nearC_ok (f:=(s:Int)) (ws:=ws) (rad:=rad) hn (by omega) (by omega) w1 r0
   have hnl:=nearR_len (ck:=true) (O:=O) (T:=T) (R:=R) (V:=V) (s:=(s:Int)) (ws:=ws) (rad:=rad) hok
   refine(AskK3 (s:Int) t pw nw cw rad most po no co O pt nt ct T pr nr cr R pv nv cv V pl nl cl _ 0 _ w HCJ (fun W h hB hBl=>nearA 3 (s:Int) t pw nw cw rad most _ _ _ 0 W hnl (fun W2 h2=>askNearCl 3 (s:Int) t pw nw cw ws rad most po no co O pt nt ct T pr nr cr R pv nv cv V pl nl cl hs L _ _ W2 (hO.ext (Ext.trans h h2)) (hT.ext (Ext.trans h h2)) (hR.ext (Ext.trans h h2)) (hV.ext (Ext.trans h h2)) hct hcv (hB.ext h2) (hBl.ext h2) (hL.ext (Ext.trans h h2)) hok (hW.ext (Ext.trans h h2)) hcw hnw hck hc))).mono ?_
   intro x w' hx
   exact⟨_,0,_,0,⟨h0.symm,fun h=>absurd rfl h,fun _=>⟨fun h=>absurd h (by decide),fun h=>absurd h (by decide),fun _=>⟨rfl,rfl,rfl⟩⟩⟩,hx⟩
 ·rw [← hno] at HCJ
  refine(AskErr k f t pw nw cw ws rad most po no co O pt nt ct T pr nr cr R pv nv cv V pl nl cl _ w (by rw [hno];exact h0) HCJ).mono ?_
  intro x w' hx
  exact⟨false,0,[],_,⟨by rw [hno],fun _=>⟨rfl,rfl,rfl⟩,fun h=>absurd (by rw [← hno];exact h) h0⟩,hx⟩
end
section
open Go Go.RowKit
theorem lawAnsw20 (k f t:Int) (pw:Option Addr) (nw cw:Nat) (ws:List ByteArray) (rad most:Int) (po:Option Addr) (no co:Nat) (O:List Int) (pt:Option Addr) (nt ct:Nat) (T:List Int) (pr:Option Addr) (nr cr:Nat) (R:List Int) (pv:Option Addr) (nv cv:Nat) (V:List Int) (pl:Option Addr) (nl cl:Nat) (hs:List Hd) (L:List Po) (wv more:Int) (pp:Option Addr) (np cp:Nat) (pk:List Int) (w:World) (hO:Rd w 1 po no (encI O)) (hT:Rd w 1 pt nt (encI T)) (hR:Rd w 1 pr nr (encI R)) (hV:Rd w 1 pv nv (encI V)) (hct:nt≤ct) (hcv:nv≤cv)
  (hW:Rd w 1 pw nw (encS ws)) (hcw:nw≤cw) (ht:I64 t) (hL:RdP w pl nl hs L) (hLI:∀ q∈L,∀ x∈q.2,I64 x) (hpk:Rd w 1 pp np (encI pk)) :
  Calls Tryz.prog 10 #[.agg #[.int .i64 k,.int .i64 f,.int .i64 t,.slice pw nw cw,.int .i64 rad,.int .i64 most],.agg #[.slice po no co,.slice pt nt ct,.slice pr nr cr,.slice pv nv cv],.slice pl nl cl,.int .i64 wv,.int .i64 more,.slice pp np cp] w fun e w'=>e=.returned (.bool true)∧Ext w w':=by
 have S0:=Lib.hid (((Sep.start w).al #[.int .i64 k,.int .i64 f,.int .i64 t,.slice pw nw cw,.int .i64 rad,.int .i64 most] 24 w.heap.size rfl).al #[.slice po no co,.slice pt nt ct,.slice pr nr cr,.slice pv nv cv] 27 (w.heap.size+1) (by simp))
 have HFR:=Lib.hid (fun W (h:Ext w W)=>FarJ20 k f t pw nw cw ws rad most po no co O pt nt ct T pr nr cr R pv nv cv V pl nl cl hs L pp np cp W (hO.ext h) (hT.ext h) (hR.ext h) (hV.ext h) (hW.ext h) (hL.ext h))
 cases hfar:farJ ws O T R V L np with
 | true =>
  rw [hfar] at HFR
  clear hO hT hR hV hct hcv hW hL hpk hfar
  go_enter Tryz.func10,Tryz.ntmps10
  go_wp2_with (go_at_call 14;go_must (refine(HFR.out _ S0.out.ext).mono ?_;rintro e w1 ⟨rfl,hb⟩;have S1:=Lib.hid (S0.out.call hb);obtain⟨b0,b1,b2,b3,bz⟩:=bkc0c1c2c3l (S1.out.blk 0 rfl);obtain⟨a0,a1,a2,a3,a4,a5,az⟩:=bkc0c1c2c3c4c5l (S1.out.blk 1 rfl);clear hb))
  go_ret
  exact⟨rfl,S1.out.ext⟩
 | false =>
  rw [hfar] at HFR
  by_cases h2:wv<1
  ·clear hO hT hR hV hct hcv hW hL hpk hfar
   go_enter Tryz.func10,Tryz.ntmps10
   go_wp2_with (go_at_call 14;go_must (refine(HFR.out _ S0.out.ext).mono ?_;rintro e w1 ⟨rfl,hb⟩;have S1:=Lib.hid (S0.out.call hb);obtain⟨b0,b1,b2,b3,bz⟩:=bkc0c1c2c3l (S1.out.blk 0 rfl);obtain⟨a0,a1,a2,a3,a4,a5,az⟩:=bkc0c1c2c3c4c5l (S1.out.blk 1 rfl);clear hb))
   go_ret
   exact⟨rfl,S1.out.ext⟩
  ·have e2:decide (wv<1)=false:=by simpa using h2
   by_cases h3:16<wv
   ·have e3:decide (16<wv)=true:=by simpa using h3
    clear hO hT hR hV hct hcv hW hL hpk hfar
    go_enter Tryz.func10,Tryz.ntmps10
    go_wp2_with (go_at_call 14;go_must (refine(HFR.out _ S0.out.ext).mono ?_;rintro e w1 ⟨rfl,hb⟩;have S1:=Lib.hid (S0.out.call hb);obtain⟨b0,b1,b2,b3,bz⟩:=bkc0c1c2c3l (S1.out.blk 0 rfl);obtain⟨a0,a1,a2,a3,a4,a5,az⟩:=bkc0c1c2c3c4c5l (S1.out.blk 1 rfl);clear hb))
    go_ret
    exact⟨rfl,S1.out.ext⟩
   ·have e3:decide (16<wv)=false:=by simpa using h3
    by_cases h4:more<0
    ·clear hO hT hR hV hct hcv hW hL hpk hfar
     go_enter Tryz.func10,Tryz.ntmps10
     go_wp2_with (go_at_call 14;go_must (refine(HFR.out _ S0.out.ext).mono ?_;rintro e w1 ⟨rfl,hb⟩;have S1:=Lib.hid (S0.out.call hb);obtain⟨b0,b1,b2,b3,bz⟩:=bkc0c1c2c3l (S1.out.blk 0 rfl);obtain⟨a0,a1,a2,a3,a4,a5,az⟩:=bkc0c1c2c3c4c5l (S1.out.blk 1 rfl);clear hb))
     go_ret
     exact⟨rfl,S1.out.ext⟩
    ·have e4:decide (more<0)=false:=by simpa using h4
     by_cases h5:100<more
     ·have e5:decide (100<more)=true:=by simpa using h5
      clear hO hT hR hV hct hcv hW hL hpk hfar
      go_enter Tryz.func10,Tryz.ntmps10
      go_wp2_with (go_at_call 14;go_must (refine(HFR.out _ S0.out.ext).mono ?_;rintro e w1 ⟨rfl,hb⟩;have S1:=Lib.hid (S0.out.call hb);obtain⟨b0,b1,b2,b3,bz⟩:=bkc0c1c2c3l (S1.out.blk 0 rfl);obtain⟨a0,a1,a2,a3,a4,a5,az⟩:=bkc0c1c2c3c4c5l (S1.out.blk 1 rfl);clear hb))
      go_ret
      exact⟨rfl,S1.out.ext⟩
     ·have e5:decide (100<more)=false:=by simpa using h5
      obtain⟨f1,f2,f3,f4,f5⟩:=jobFacts k f t pw nw cw ws rad most rfl rfl rfl rfl rfl rfl rfl rfl hfar hLI
      have hno:=hO.nI
      have hnw:=hW.nS
      have hno2:(no:Int)≤1000:=by omega
      have hno3:(0:Int)≤(no:Int):=by omega
      have hm1:0≤more:=by omega
      have hm2:more≤100:=by omega
      have HR1:=Lib.hid (fun W (h:Ext w W)=>RunG k f t pw nw cw ws rad most po no co O pt nt ct T pr nr cr R pv nv cv V pl nl cl hs L wv ((no:Int)+1+more) pp np cp pk W (hO.ext h) (hT.ext h) (hR.ext h) (hV.ext h) hct hcv (hL.ext h) (hW.ext h) (hpk.ext h) (by omega) f2 (by omega) ht hcw (by omega) f4)
      have HAK:=Lib.hid (fun W (h:Ext w W)=>AskG k f t pw nw cw ws rad most po no co O pt nt ct T pr nr cr R pv nv cv V pl nl cl hs L W (hO.ext h) (hT.ext h) (hR.ext h) (hV.ext h) hct hcv (hL.ext h) (hW.ext h) (by omega) f2 hcw (by omega) f4)
      have HRA:=Lib.hid (fun (b b':Bool) (d d':Int) (F F':List (Int × Int)) (n e e':Int) (hR:RunS O T R V L k f t ws rad most wv ((no:Int)+1+more) b d F n e) (hA:AskS O T R V L k f t ws rad most b' d' F' e')=>run_asks (by omega) hR hA (by omega) (by omega))
      have HNB:Hid ((O.length:Int)≤(no:Int)+1+more):=by unfold Hid;omega
      have HNL:Hid ((O.length:Int)=no):=by unfold Hid;omega
      clear hO hT hR hV hct hcv hW hL hpk hfar f1 f2 f3 f4 f5 hno hnw h2 h3 h4 h5 ht hcw hLI
      go_enter Tryz.func10,Tryz.ntmps10
      go_wp2_with (first | (go_at_call 20;have _t:=S4;go_must (refine(Same18 b1' d1' q1 q2 F1.length F1.length c1 c2 F1 _ (S4.out.rdx 3 rfl) (S4.out.rdx 1 rfl)).mono ?_;rintro e w5 ⟨rfl,hb⟩;have S5:=Lib.hid (S4.out.call hb);clear hb)) | (go_at_call 19;have _t:=S3;go_must (refine(Jobs20 _).mono ?_;rintro e w4 ⟨rfl,hb⟩;have S4:=Lib.hid (S3.out.call hb);obtain⟨r0,r1,r2,rz⟩:=bkc0c1c2l (S4.out.blk 2 rfl);obtain⟨s0,s1,s2,sz⟩:=bkc0c1c2l (S4.out.blk 0 rfl);clear hb)) | (go_at_call 40;have _t:=S2;go_must (refine(HAK.out _ S2.out.ext).mono ?_;rintro e w3 ⟨b2',d2',F2,e2',g2,q2,c2,rfl,Z⟩;obtain⟨rfl,rfl,rfl,rfl,_,hkn,_⟩:=(HRA.out _ _ _ _ _ _ _ _ _ G1.out g2).resolve_right (fun h=>absurd h.2.2.2.2.2.2 (by have:=HNB.out;omega));have dk:decide (n1'≤(no:Int)+1)=true:=decide_eq_true (by have:=HNL.out;omega);have S3:=Lib.hid ((S2.out.comp Z).al #[.bool b1',.int .i64 d1',.slice q2 F1.length c2] 34 w3.heap.size rfl);clear a0 a1 a2 a3 a4 a5 az b0 b1 b2 b3 bz;clear Z g2 hkn)) | (go_at_call 17;go_must (refine(HR1.out _ S1.out.ext).mono ?_;rintro e w2 ⟨b1',d1',F1,n1',e1',g1,q1,c1,rfl,Z⟩;have G1:=Lib.hid g1;have S2:=Lib.hid ((S1.out.comp Z).al #[.bool b1',.int .i64 d1',.slice q1 F1.length c1] 34 w2.heap.size rfl);clear a0 a1 a2 a3 a4 a5 az b0 b1 b2 b3 bz;obtain⟨b0,b1,b2,b3,bz⟩:=bkc0c1c2c3l (S2.out.blk 2 rfl);obtain⟨a0,a1,a2,a3,a4,a5,az⟩:=bkc0c1c2c3c4c5l (S2.out.blk 3 rfl);clear Z g1)) | (go_at_call 14;go_must (refine(HFR.out _ S0.out.ext).mono ?_;rintro e w1 ⟨rfl,hb⟩;have S1:=Lib.hid (S0.out.call hb);obtain⟨b0,b1,b2,b3,bz⟩:=bkc0c1c2c3l (S1.out.blk 0 rfl);obtain⟨a0,a1,a2,a3,a4,a5,az⟩:=bkc0c1c2c3c4c5l (S1.out.blk 1 rfl);clear hb)))
      go_ret
      exact⟨rfl,S5.out.ext⟩
end
section
open Go Go.RowKit Go.WideShapes Go.ChangeShapes
theorem own:ownKnob Tryz.prog.godebug=none:=by kernel_rfl
theorem laidOut:laidOutB Tryz.prog=true:=by kernel_rfl
theorem law_post {H:Type} {enc:TypeId × Value→H} {f:Func} {s:ChangeSpec} {apart fresh handsOn again:Bool} {W W':World} {args:Array Value} {ds:List (DataW H)} {before:List MemPlace}
  (hW:DataW.Whole enc Tryz.prog f.params.toList s.vars apart W args.toList ds [] before) (ht:f.resultTypes=#[4]) (hvars:s.vars=[])
  (hfn:s.fn H (ds ++ [])={ results:=[.lit (.bool true)],args:=ds })
  (hargs:∀ sp:Nat→Bool,(∀ p∈before,sp p.block=true)→DataW.TrodAll enc Tryz.prog W' 0 sp true f.params.toList args.toList ds before)
  (hb:Below W.heap.size W W'):s.post enc Tryz.prog f apart fresh handsOn again W args (.bool true) W':=by
 have lits:∀ (b:Nat) (sp:Nat→Bool) (hd:Bool),DataW.TrodAll enc Tryz.prog W' b sp hd f.resultTypes.toList ((Value.bool true).resultList f.resultTypes.size) (s.fn H (ds ++ [])).results []:=by
  intro b sp hd
  rw [hfn,ht]
  exact trodAll_mk1 (shut_bool Tryz.underlying4 true)
 have hold:∀ sp:Nat→Bool,(∀ p∈before,sp p.block=true)→DataW.TrodAll enc Tryz.prog W' 0 sp true f.params.toList args.toList (s.fn H (ds ++ [])).args before:=by
  intro sp hsp
  rw [hfn];exact hargs sp hsp
 have hv:∀ sp:Nat→Bool,DataW.TrodVars enc Tryz.prog W' sp s.vars (s.fn H (ds ++ [])).vars []:=by
  intro sp;rw [hfn,hvars];rfl
 have hin:∀ p∈before,p.block<W.heap.size:=fun p hp=>hW.lt p hp
 have same:before=before ++ []:=by simp
 refine⟨ds,[],before,[],before,[],hW,lits _ _ _,hold _ (fun p hp=>by simpa using hin p hp),hv _,World.keptBut_mono (fun p hp=>⟨hp,.inr (by simpa using hp)⟩) (hb.frame (·∈before)),fun _=>?_⟩
 have hW2:=hW
 obtain⟨_,_,_,_,_,hz,hn⟩:=hW2
 refine⟨ok_one (by rw [ht]) rfl (okWide_bool_mk Tryz.underlying4 _),_,_,([] ++ before) ++ [],⟨[] ++ before,[],trodAll_append (hold _ (fun _ _=>rfl)) (lits _ _ _),hv _,rfl,?_,?_⟩,?_⟩
 ·intro b off hp
  have hp2:MemPlace.cell b off∈before:=by simpa using hp
  rw [hb.frozen (hin _ hp2)]
  exact hz b off hp2
 ·intro ha
  simpa using hn ha
 ·intro p hp _
  simpa using hp
theorem stays {H:Type} {enc:TypeId × Value→H} {W W':World} {t:TypeId} {v:Value} {d:DataW H} {ps:List MemPlace} (hr:Tryz.prog.readableRec t=true) (hrow:t<Tryz.prog.types.size) (h:DataW.Trod enc Tryz.prog W 0 (fun _=>true) true t v d ps)
  (hb:Below W.heap.size W W') (hlt:∀ x∈ps,x.block<W.heap.size) {sp:Nat→Bool} (hsp:∀ x∈ps,sp x.block=true):DataW.Trod enc Tryz.prog W' 0 sp true t v d ps :=
 WideElems.Trod_stays laidOut hr hrow h (fun x hx=>hb.same (hlt x hx)) hsp
theorem trodAll_turn {H:Type} {enc:TypeId × Value→H} {P:Program} {W W':World} {sp sp':Nat→Bool} {hd:Bool} (ts:List TypeId):∀ {vs:List Value} {ds:List (DataW H)} {ps:List MemPlace},DataW.TrodAll enc P W 0 sp hd ts vs ds ps →
  (∀ t∈ts,∀ v d p,(∀ x∈p,x∈ps)→DataW.Trod enc P W 0 sp hd t v d p→DataW.Trod enc P W' 0 sp' hd t v d p)→DataW.TrodAll enc P W' 0 sp' hd ts vs ds ps:=by
 induction ts with
 | nil =>
  intro vs ds ps h _
  obtain⟨rfl,rfl,rfl⟩:=trodAll_nil h
  exact trodAll_mk0
 | cons t ts ih =>
  intro vs ds ps h hk
  obtain⟨v,vs',d,ds',p,q,rfl,rfl,rfl,h1,h2⟩:=trodAll_cons h
  exact trodAll_cons_mk (hk t (by simp) v d p (fun x hx=>by simp [hx]) h1) (ih h2 fun t' ht' v' d' p' hp' h'=>hk t' (by simp [ht']) v' d' p' (fun x hx=>by simp [hp' x hx]) h')
theorem stays_all {H:Type} {enc:TypeId × Value→H} {W W':World} {ts:List TypeId} {vs:List Value} {ds:List (DataW H)} {ps:List MemPlace} (hr:ts.all (fun t=>Tryz.prog.readableRec t && decide (t<Tryz.prog.types.size))=true)
  (h:DataW.TrodAll enc Tryz.prog W 0 (fun _=>true) true ts vs ds ps) (hb:Below W.heap.size W W') (hlt:∀ x∈ps,x.block<W.heap.size) {sp:Nat→Bool} (hsp:∀ x∈ps,sp x.block=true):DataW.TrodAll enc Tryz.prog W' 0 sp true ts vs ds ps :=
 trodAll_turn ts h fun t ht v d p hp h1=>by
  have h2:=List.all_eq_true.1 hr t ht
  rw [Bool.and_eq_true,decide_eq_true_eq] at h2
  exact stays h2.1 h2.2 h1 hb (fun x hx=>hlt x (hp x hx)) (fun x hx=>hsp x (hp x hx))
theorem andT {a b:Bool} (h:a=true) (g:b=true):(a && b)=true:=by rw [h,g];rfl
end
section
open Go Go.RowKit Go.ChangeShapes Go.WideShapes Go.ChangeAt Go.Deep Go.Joins
section
variable {H:Type} {enc:TypeId × Value→H} {w:World} {base:Nat} {spare:Nat→Bool} {held:Bool}
theorem open_rowsarg {r:Reach} {b0:Nat} {v:Value} {d:DataW H} {p:List MemPlace} (hv:Value.okWide Tryz.prog w r b0 27 v) (h:DataW.Trod enc Tryz.prog w base spare held 27 v d p) :
  ∃ po no co O pt nt ct T pr nr cr R pv nv cv V,v=.agg #[.slice po no co,.slice pt nt ct,.slice pr nr cr,.slice pv nv cv]∧Rd w 1 po no (encI O)∧Rd w 1 pt nt (encI T)∧Rd w 1 pr nr (encI R)∧Rd w 1 pv nv (encI V)∧no≤co∧nt≤ct∧nr≤cr∧nv≤cv:=by
 obtain⟨v0,v1,v2,v3,y0,y1,y2,y3,n,rfl,_,_,t0,t1,t2,t3⟩:=open_agg4 Tryz.underlying27 (by kernel_rfl) (by kernel_rfl) hv h
 obtain⟨po,no,co,O,rfl,c0,h0,_⟩:=trod_ints Tryz.underlying25 t0
 obtain⟨pt,nt,ct,T,rfl,c1,h1,_⟩:=trod_ints Tryz.underlying25 t1
 obtain⟨pr,nr,cr,R,rfl,c2,h2,_⟩:=trod_ints Tryz.underlying25 t2
 obtain⟨pv,nv,cv,V,rfl,c3,h3,_⟩:=trod_ints Tryz.underlying25 t3
 exact⟨po,no,co,O,pt,nt,ct,T,pr,nr,cr,R,pv,nv,cv,V,rfl,h0,h1,h2,h3,c0,c1,c2,c3⟩
end
end
section
open Go Go.RowKit
theorem lawBudg20 (k f t:Int) (pw:Option Addr) (nw cw:Nat) (ws:List ByteArray) (rad most:Int) (po:Option Addr) (no co:Nat) (O:List Int) (pt:Option Addr) (nt ct:Nat) (T:List Int) (pr:Option Addr) (nr cr:Nat) (R:List Int) (pv:Option Addr) (nv cv:Nat) (V:List Int) (pl:Option Addr) (nl cl:Nat) (hs:List Hd) (L:List Po) (wv bud more:Int) (w:World) (hO:Rd w 1 po no (encI O)) (hT:Rd w 1 pt nt (encI T)) (hR:Rd w 1 pr nr (encI R)) (hV:Rd w 1 pv nv (encI V)) (hct:nt≤ct) (hcv:nv≤cv)
  (hW:Rd w 1 pw nw (encS ws)) (hcw:nw≤cw) (ht:I64 t) (hL:RdP w pl nl hs L) (hLI:∀ q∈L,∀ x∈q.2,I64 x) :
  Calls Tryz.prog 11 #[.agg #[.int .i64 k,.int .i64 f,.int .i64 t,.slice pw nw cw,.int .i64 rad,.int .i64 most],.agg #[.slice po no co,.slice pt nt ct,.slice pr nr cr,.slice pv nv cv],.slice pl nl cl,.int .i64 wv,.int .i64 bud,.int .i64 more] w fun e w'=>e=.returned (.bool true)∧Ext w w':=by
 have S0:=Lib.hid (((Sep.start w).al #[.int .i64 k,.int .i64 f,.int .i64 t,.slice pw nw cw,.int .i64 rad,.int .i64 most] 24 w.heap.size rfl).al #[.slice po no co,.slice pt nt ct,.slice pr nr cr,.slice pv nv cv] 27 (w.heap.size+1) (by simp))
 have HFR:=Lib.hid (fun W (h:Ext w W)=>FarJ20 k f t pw nw cw ws rad most po no co O pt nt ct T pr nr cr R pv nv cv V pl nl cl hs L none 0 0 W (hO.ext h) (hT.ext h) (hR.ext h) (hV.ext h) (hW.ext h) (hL.ext h))
 cases hfar:farJ ws O T R V L 0 with
 | true =>
  rw [hfar] at HFR
  clear hO hT hR hV hct hcv hW hL hfar
  go_enter Tryz.func11,Tryz.ntmps11
  go_wp2_with (go_at_call 14;go_must (refine(HFR.out _ S0.out.ext).mono ?_;rintro e w1 ⟨rfl,hb⟩;have S1:=Lib.hid (S0.out.call hb);obtain⟨b0,b1,b2,b3,bz⟩:=bkc0c1c2c3l (S1.out.blk 0 rfl);obtain⟨a0,a1,a2,a3,a4,a5,az⟩:=bkc0c1c2c3c4c5l (S1.out.blk 1 rfl);clear hb))
  go_ret
  exact⟨rfl,S1.out.ext⟩
 | false =>
  rw [hfar] at HFR
  by_cases h2:wv<1
  ·clear hO hT hR hV hct hcv hW hL hfar
   go_enter Tryz.func11,Tryz.ntmps11
   go_wp2_with (go_at_call 14;go_must (refine(HFR.out _ S0.out.ext).mono ?_;rintro e w1 ⟨rfl,hb⟩;have S1:=Lib.hid (S0.out.call hb);obtain⟨b0,b1,b2,b3,bz⟩:=bkc0c1c2c3l (S1.out.blk 0 rfl);obtain⟨a0,a1,a2,a3,a4,a5,az⟩:=bkc0c1c2c3c4c5l (S1.out.blk 1 rfl);clear hb))
   go_ret
   exact⟨rfl,S1.out.ext⟩
  ·have e2:decide (wv<1)=false:=by simpa using h2
   by_cases h3:16<wv
   ·have e3:decide (16<wv)=true:=by simpa using h3
    clear hO hT hR hV hct hcv hW hL hfar
    go_enter Tryz.func11,Tryz.ntmps11
    go_wp2_with (go_at_call 14;go_must (refine(HFR.out _ S0.out.ext).mono ?_;rintro e w1 ⟨rfl,hb⟩;have S1:=Lib.hid (S0.out.call hb);obtain⟨b0,b1,b2,b3,bz⟩:=bkc0c1c2c3l (S1.out.blk 0 rfl);obtain⟨a0,a1,a2,a3,a4,a5,az⟩:=bkc0c1c2c3c4c5l (S1.out.blk 1 rfl);clear hb))
    go_ret
    exact⟨rfl,S1.out.ext⟩
   ·have e3:decide (16<wv)=false:=by simpa using h3
    by_cases h4:bud<1
    ·clear hO hT hR hV hct hcv hW hL hfar
     go_enter Tryz.func11,Tryz.ntmps11
     go_wp2_with (go_at_call 14;go_must (refine(HFR.out _ S0.out.ext).mono ?_;rintro e w1 ⟨rfl,hb⟩;have S1:=Lib.hid (S0.out.call hb);obtain⟨b0,b1,b2,b3,bz⟩:=bkc0c1c2c3l (S1.out.blk 0 rfl);obtain⟨a0,a1,a2,a3,a4,a5,az⟩:=bkc0c1c2c3c4c5l (S1.out.blk 1 rfl);clear hb))
     go_ret
     exact⟨rfl,S1.out.ext⟩
    ·have e4:decide (bud<1)=false:=by simpa using h4
     by_cases h5:more<bud
     ·have e5:decide (more<bud)=true:=by simpa using h5
      clear hO hT hR hV hct hcv hW hL hfar
      go_enter Tryz.func11,Tryz.ntmps11
      go_wp2_with (go_at_call 14;go_must (refine(HFR.out _ S0.out.ext).mono ?_;rintro e w1 ⟨rfl,hb⟩;have S1:=Lib.hid (S0.out.call hb);obtain⟨b0,b1,b2,b3,bz⟩:=bkc0c1c2c3l (S1.out.blk 0 rfl);obtain⟨a0,a1,a2,a3,a4,a5,az⟩:=bkc0c1c2c3c4c5l (S1.out.blk 1 rfl);clear hb))
      go_ret
      exact⟨rfl,S1.out.ext⟩
     ·have e5:decide (more<bud)=false:=by simpa using h5
      by_cases h6:200<more
      ·have e6:decide (200<more)=true:=by simpa using h6
       clear hO hT hR hV hct hcv hW hL hfar
       go_enter Tryz.func11,Tryz.ntmps11
       go_wp2_with (go_at_call 14;go_must (refine(HFR.out _ S0.out.ext).mono ?_;rintro e w1 ⟨rfl,hb⟩;have S1:=Lib.hid (S0.out.call hb);obtain⟨b0,b1,b2,b3,bz⟩:=bkc0c1c2c3l (S1.out.blk 0 rfl);obtain⟨a0,a1,a2,a3,a4,a5,az⟩:=bkc0c1c2c3c4c5l (S1.out.blk 1 rfl);clear hb))
       go_ret
       exact⟨rfl,S1.out.ext⟩
      ·have e6:decide (200<more)=false:=by simpa using h6
       obtain⟨f1,f2,f3,f4,f5⟩:=jobFacts k f t pw nw cw ws rad most rfl rfl rfl rfl rfl rfl rfl rfl hfar hLI
       have hno:=hO.nI
       have hnw:=hW.nS
       have HR1:=Lib.hid (fun W (h:Ext w W)=>RunG k f t pw nw cw ws rad most po no co O pt nt ct T pr nr cr R pv nv cv V pl nl cl hs L wv bud none 0 0 [] W (hO.ext h) (hT.ext h) (hR.ext h) (hV.ext h) hct hcv (hL.ext h) (hW.ext h) (Rd.nil _ _ _) (by omega) f2 (by omega) ht hcw (by omega) f4)
       have HR2:=Lib.hid (fun W (h:Ext w W)=>RunG k f t pw nw cw ws rad most po no co O pt nt ct T pr nr cr R pv nv cv V pl nl cl hs L wv more none 0 0 [] W (hO.ext h) (hT.ext h) (hR.ext h) (hV.ext h) hct hcv (hL.ext h) (hW.ext h) (Rd.nil _ _ _) (by omega) f2 (by omega) ht hcw (by omega) f4)
       have HAK:=Lib.hid (fun W (h:Ext w W)=>AskG k f t pw nw cw ws rad most po no co O pt nt ct T pr nr cr R pv nv cv V pl nl cl hs L W (hO.ext h) (hT.ext h) (hR.ext h) (hV.ext h) hct hcv (hL.ext h) (hW.ext h) (by omega) f2 hcw (by omega) f4)
       have HRA:=Lib.hid (fun (b b':Bool) (d d':Int) (F F':List (Int × Int)) (n e e':Int) (hR:RunS O T R V L k f t ws rad most wv bud b d F n e) (hA:AskS O T R V L k f t ws rad most b' d' F' e')=>run_asks (by omega) hR hA (by omega) (by omega))
       have HRM:=Lib.hid (fun (b b':Bool) (d d':Int) (F F':List (Int × Int)) (n n' e e':Int) (hR:RunS O T R V L k f t ws rad most wv bud b d F n e) (hM:RunS O T R V L k f t ws rad most wv more b' d' F' n' e')=>run_more hR hM (by omega) (by omega) (by omega))
       clear hO hT hR hV hct hcv hW hL hfar f1 f2 f3 f4 f5 hno hnw h2 h3 h4 h5 h6 ht hcw hLI
       go_enter Tryz.func11,Tryz.ntmps11
       go_wp2_with (first | (go_at_call 40;have _t:=S3;go_must (refine(HAK.out _ S3.out.ext).mono ?_;rintro e w4 ⟨b3',d3',F3,e3',g3,q3,c3,rfl,Z⟩;have S4:=Lib.hid ((S3.out.comp Z).al #[.bool b3',.int .i64 d3',.slice q3 F3.length c3] 34 w4.heap.size rfl);clear a0 a1 a2 a3 a4 a5 az b0 b1 b2 b3 bz;have HX:=HRA.out _ _ _ _ _ _ _ _ _ G1.out g3;have HY:=Lib.hid (HRM.out _ _ _ _ _ _ _ _ _ _ G1.out G2.out);clear Z g3;rcases HX with ⟨rfl,rfl,rfl,rfl,hne,_,_⟩ | ⟨rfl,rfl,rfl,rfl,rfl,rfl,_⟩)) | (go_at_call 17;have _t:=S2;go_must (refine(HR2.out _ S2.out.ext).mono ?_;rintro e w3 ⟨b2',d2',F2,n2',e2',g2,q2,c2,rfl,Z⟩;have G2:=Lib.hid g2;have S3:=Lib.hid ((S2.out.comp Z).al #[.bool b2',.int .i64 d2',.slice q2 F2.length c2] 34 w3.heap.size rfl);clear a0 a1 a2 a3 a4 a5 az b0 b1 b2 b3 bz;obtain⟨b0,b1,b2,b3,bz⟩:=bkc0c1c2c3l (S3.out.blk 4 rfl);obtain⟨a0,a1,a2,a3,a4,a5,az⟩:=bkc0c1c2c3c4c5l (S3.out.blk 5 rfl);clear Z g2)) | (go_at_call 17;go_must (refine(HR1.out _ S1.out.ext).mono ?_;rintro e w2 ⟨b1',d1',F1,n1',e1',g1,q1,c1,rfl,Z⟩;have G1:=Lib.hid g1;have S2:=Lib.hid ((S1.out.comp Z).al #[.bool b1',.int .i64 d1',.slice q1 F1.length c1] 34 w2.heap.size rfl);clear a0 a1 a2 a3 a4 a5 az b0 b1 b2 b3 bz;obtain⟨b0,b1,b2,b3,bz⟩:=bkc0c1c2c3l (S2.out.blk 2 rfl);obtain⟨a0,a1,a2,a3,a4,a5,az⟩:=bkc0c1c2c3c4c5l (S2.out.blk 3 rfl);clear Z g1)) | (go_at_call 14;go_must (refine(HFR.out _ S0.out.ext).mono ?_;rintro e w1 ⟨rfl,hb⟩;have S1:=Lib.hid (S0.out.call hb);obtain⟨b0,b1,b2,b3,bz⟩:=bkc0c1c2c3l (S1.out.blk 0 rfl);obtain⟨a0,a1,a2,a3,a4,a5,az⟩:=bkc0c1c2c3c4c5l (S1.out.blk 1 rfl);clear hb)))
       ·obtain⟨rfl,rfl,rfl,rfl,rfl⟩:e1'=e2'∧b1'=b2'∧d1'=d2'∧F1=F2∧n1'=n2':=by
         obtain⟨h1,h2,h3,h4,h5⟩:=HY.out.1 hne
         exact⟨h1.symm,h2.symm,h3.symm,h4.symm,h5.symm⟩
        clear HY
        (refine(Jobs20 _).mono ?_;rintro e w5 ⟨rfl,hb⟩;have S5:=Lib.hid (S4.out.call hb);obtain⟨r0,r1,r2,rz⟩:=bkc0c1c2l (S5.out.blk 0 rfl);obtain⟨s0,s1,s2,sz⟩:=bkc0c1c2l (S5.out.blk 2 rfl);obtain⟨u0,u1,u2,uz⟩:=bkc0c1c2l (S5.out.blk 4 rfl);clear hb)
        go_wp2_with (first | (go_at_call 20;have _t:=S6;go_must (refine(Same18 b1' d1' q2 q1 F1.length F1.length c2 c1 F1 _ (S6.out.rdx 3 rfl) (S6.out.rdx 5 rfl)).mono ?_;rintro e w7 ⟨rfl,hb⟩;have S7:=Lib.hid (S6.out.call hb);clear hb)) | (go_at_call 20;have _t:=S5;go_must (refine(Same18 b1' d1' q1 q3 F1.length F1.length c1 c3 F1 _ (S5.out.rdx 5 rfl) (S5.out.rdx 1 rfl)).mono ?_;rintro e w6 ⟨rfl,hb⟩;have S6:=Lib.hid (S5.out.call hb);clear r0 r1 r2 rz s0 s1 s2 sz u0 u1 u2 uz;obtain⟨s0,s1,s2,sz⟩:=bkc0c1c2l (S6.out.blk 2 rfl);obtain⟨u0,u1,u2,uz⟩:=bkc0c1c2l (S6.out.blk 4 rfl);clear hb)))
        go_ret
        exact⟨rfl,S7.out.ext⟩
       ·have HZ:=HY.out.2 (by first | exact trivial | rfl)
        clear HY
        rcases HZ with rfl | ⟨rfl,hlt⟩
        ·(refine(Jobs20 _).mono ?_;rintro e w5 ⟨rfl,hb⟩;have S5:=Lib.hid (S4.out.call hb);obtain⟨r0,r1,r2,rz⟩:=bkc0c1c2l (S5.out.blk 0 rfl);obtain⟨s0,s1,s2,sz⟩:=bkc0c1c2l (S5.out.blk 2 rfl);obtain⟨u0,u1,u2,uz⟩:=bkc0c1c2l (S5.out.blk 4 rfl);clear hb)
         go_wp2_with (go_at_call 20;have _t:=S5;go_must (refine(Same18 false 0 q1 none 0 0 c1 0 [] _ (S5.out.rdx 5 rfl) (Rd.nil _ _ _)).mono ?_;rintro e w6 ⟨rfl,hb⟩;have S6:=Lib.hid (S5.out.call hb);clear hb))
         go_ret
         exact⟨rfl,S6.out.ext⟩
        ·have dlt:decide (n1'<n2')=true:=decide_eq_true hlt
         (refine(Jobs20 _).mono ?_;rintro e w5 ⟨rfl,hb⟩;have S5:=Lib.hid (S4.out.call hb);obtain⟨r0,r1,r2,rz⟩:=bkc0c1c2l (S5.out.blk 0 rfl);obtain⟨s0,s1,s2,sz⟩:=bkc0c1c2l (S5.out.blk 2 rfl);obtain⟨u0,u1,u2,uz⟩:=bkc0c1c2l (S5.out.blk 4 rfl);clear hb)
         go_wp2_with (go_at_call 20;have _t:=S5;go_must (refine(Same18 false 0 q1 none 0 0 c1 0 [] _ (S5.out.rdx 5 rfl) (Rd.nil _ _ _)).mono ?_;rintro e w6 ⟨rfl,hb⟩;have S6:=Lib.hid (S5.out.call hb);clear hb))
         go_ret
         exact⟨rfl,S6.out.ext⟩
end
end Go.Proofs.YtfjhjennfiihhaaGreat
