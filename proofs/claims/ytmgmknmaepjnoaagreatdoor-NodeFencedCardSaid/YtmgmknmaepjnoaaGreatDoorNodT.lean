/-
  A node: Take.
-/
import Derived.Test.YtmgmknmaepjnoaaGreatDoorMsgA
import Derived.Lib.QuietBelow
namespace Go.Proofs.YtmgmknmaepjnoaaGreatDoor
open Go.RowKit Go.Shelf Go.Sort Proofs.Tryz
theorem newAt {w:World} {k j:Nat} {o:Obj} (h:w.heap[j]?=some o) (e:j=k):w.heap[k]?=some o:=e▸h
theorem fY {B:Nat} {a w:World} (h:Below B a w) (n:Nat):Below B a (w.drewN n):=⟨h.os,h.tape,h.output,h.size,h.block⟩
section
variable {w:World} {nb:Nat} {P0 P1 P2:World->Prop} {Q:Value->World->Prop}
set_option maxHeartbeats 16000000 in
set_option maxRecDepth 100000 in
theorem qu {T:TypeId} {V:Value} (fr now:Int) (h47:T≠47) (h45:T≠45) (h42:T≠42) (h49:T≠49) (hf:1<=fr/\fr<=100)
 (HR:Calls prog 13 #[.iface T V] w (fun e w'=>e=.returned (.bool true)/\Below w.heap.size w w'))
 (HN:∀Z,Below w.heap.size w Z->Calls prog 37 #[.pointer (some ⟨nb,0,none⟩),.int .i64 fr,.iface T V,.int .i64 now] Z (fun e w'=>e=.returned (.tuple #[])/\P1 w'))
 (HS:∀Z,P1 Z->Calls prog 35 #[.pointer (some ⟨nb,0,none⟩)] Z (fun e w'=>e=.returned (.tuple #[])/\P2 w'))
 (HT:∀Z,P2 Z->Calls prog 38 #[.pointer (some ⟨nb,0,none⟩)] Z (fun e w'=>∃v,e=.returned v/\Q v w')) :
 Calls prog 10 #[.pointer (some ⟨nb,0,none⟩),.int .i64 fr,.iface T V,.int .i64 now] w fun e w'=>∃v,e=.returned v/\Q v w':=by
 have a47:=fun (v:Value) (w:World)=>eZ T v w;have a45:=fun (v:Value) (w:World)=>dS T v w;have a42:=fun (v:Value) (w:World)=>fZ T v w;have a49:=fun (v:Value) (w:World)=>i7 T v w;simp only[if_neg h47,if_neg h45,if_neg h42,if_neg h49,decide_eq_false h47,decide_eq_false h45,decide_eq_false h42,decide_eq_false h49]at a47 a45 a42 a49;have HRH:=ad HR;have HNH:=ad HN;have HSH:=ad HS;have HTH:=ad HT;have hf1:=hf.1;have hf2:=hf.2;clear HR HN HS HT h47 h45 h42 h49 hf;go_enter func10,ntmps10;go_wp2_with fail;refine HRH.out.mono ?_;rintro e w1 ⟨rfl,b1⟩;have HB1:=ad b1;clear b1 HRH;go_wp2;go_quiet (fail);go_wp2_with fail;refine(HNH.out _ (by repeat (first|exact HB1.out|refine an ?_ _|refine fY ?_ _))).mono ?_;rintro e w2 ⟨rfl,h2⟩;have HS2:=ad (HSH.out _ h2);clear h2 HNH HSH HB1;go_wp2_with fail;refine HS2.out.mono ?_;rintro e w3 ⟨rfl,h3⟩;have HT3:=ad (HTH.out _ h3);clear h3 HTH HS2;go_wp2_with fail;refine HT3.out.mono ?_;rintro e w4 ⟨v,rfl,h4⟩;have H4:=ad h4;clear h4 HT3;go_wp2;go_ret;exact⟨v,rfl,H4.out⟩
set_option maxHeartbeats 16000000 in
set_option maxRecDepth 100000 in
theorem E8 {T:TypeId} {V:Value} (fr now:Int) (h47:T≠47) (h45:T≠45) (h42:T≠42) (h49:T≠49) (hf:fr<1)
 (HR:Calls prog 13 #[.iface T V] w (fun e w'=>e=.returned (.bool true)/\Below w.heap.size w w'))
 (HN:∀Z,Below w.heap.size w Z->P1 Z)
 (HS:∀Z,P1 Z->Calls prog 35 #[.pointer (some ⟨nb,0,none⟩)] Z (fun e w'=>e=.returned (.tuple #[])/\P2 w'))
 (HT:∀Z,P2 Z->Calls prog 38 #[.pointer (some ⟨nb,0,none⟩)] Z (fun e w'=>∃v,e=.returned v/\Q v w')) :
 Calls prog 10 #[.pointer (some ⟨nb,0,none⟩),.int .i64 fr,.iface T V,.int .i64 now] w fun e w'=>∃v,e=.returned v/\Q v w':=by
 have a47:=fun (v:Value) (w:World)=>eZ T v w;have a45:=fun (v:Value) (w:World)=>dS T v w;have a42:=fun (v:Value) (w:World)=>fZ T v w;have a49:=fun (v:Value) (w:World)=>i7 T v w;simp only[if_neg h47,if_neg h45,if_neg h42,if_neg h49,decide_eq_false h47,decide_eq_false h45,decide_eq_false h42,decide_eq_false h49]at a47 a45 a42 a49;have HRH:=ad HR;have HNH:=ad HN;have HSH:=ad HS;have HTH:=ad HT;have hf1:¬1<=fr:=by omega
 clear HR HN HS HT h47 h45 h42 h49 hf;go_enter func10,ntmps10;go_wp2_with fail;refine HRH.out.mono ?_;rintro e w1 ⟨rfl,b1⟩;have HB1:=ad b1;clear b1 HRH;go_wp2;go_quiet (fail);go_wp2_with fail;refine(HSH.out _ (HNH.out _ (by repeat (first|exact HB1.out|refine an ?_ _|refine fY ?_ _)))).mono ?_;rintro e w3 ⟨rfl,h3⟩;have HT3:=ad (HTH.out _ h3);clear h3 HTH HSH HNH HB1;go_wp2_with fail;refine HT3.out.mono ?_;rintro e w4 ⟨v,rfl,h4⟩;have H4:=ad h4;clear h4 HT3;go_wp2;go_ret;exact⟨v,rfl,H4.out⟩
set_option maxHeartbeats 16000000 in
set_option maxRecDepth 100000 in
theorem AR (x0 x1 fr now:Int) (hf:1<=fr/\fr<=100)
 (HR:Calls prog 13 #[.iface 45 (.agg #[.int .i64 x0,.int .i64 x1])] w (fun e w'=>e=.returned (.bool true)/\Below w.heap.size w w'))
 (HN:∀Z,Below w.heap.size w Z->Calls prog 37 #[.pointer (some ⟨nb,0,none⟩),.int .i64 fr,.iface 45 (.agg #[.int .i64 x0,.int .i64 x1]),.int .i64 now] Z (fun e w'=>e=.returned (.tuple #[])/\P1 w'))
 (HS:∀Z,P1 Z->Calls prog 35 #[.pointer (some ⟨nb,0,none⟩)] Z (fun e w'=>e=.returned (.tuple #[])/\P2 w'))
 (HT:∀Z,P2 Z->Calls prog 38 #[.pointer (some ⟨nb,0,none⟩)] Z (fun e w'=>∃v,e=.returned v/\Q v w')) :
 Calls prog 10 #[.pointer (some ⟨nb,0,none⟩),.int .i64 fr,.iface 45 (.agg #[.int .i64 x0,.int .i64 x1]),.int .i64 now] w fun e w'=>∃v,e=.returned v/\Q v w':=by
 have a47:=fun (v:Value) (w:World)=>eZ 45 v w;have a45:=fun (v:Value) (w:World)=>dS 45 v w;have a42:=fun (v:Value) (w:World)=>fZ 45 v w;have a49:=fun (v:Value) (w:World)=>i7 45 v w;have h47:¬45=47:=by decide
 have h42:¬45=42:=by decide
 have h49:¬45=49:=by decide
 simp only[if_neg h47,if_neg h42,if_neg h49,decide_eq_false h47,decide_eq_false h42,decide_eq_false h49,if_true,decide_true]at a47 a45 a42 a49;have hf0:(fr==0)=false:=by rw[beq_eq_false_iff_ne];omega
 have HRH:=ad HR;have HNH:=ad HN;have HSH:=ad HS;have HTH:=ad HT;have hf1:=hf.1;have hf2:=hf.2;clear HR HN HS HT h47 h42 h49 hf;go_enter func10,ntmps10;go_wp2_with fail;refine HRH.out.mono ?_;rintro e w1 ⟨rfl,b1⟩;have HB1:=ad b1;clear b1 HRH;go_wp2;go_quiet (fail);go_wp2_with fail;refine(HNH.out _ (by repeat (first|exact HB1.out|refine an ?_ _|refine fY ?_ _))).mono ?_;rintro e w2 ⟨rfl,h2⟩;have HS2:=ad (HSH.out _ h2);clear h2 HNH HSH HB1;go_wp2_with fail;refine HS2.out.mono ?_;rintro e w3 ⟨rfl,h3⟩;have HT3:=ad (HTH.out _ h3);clear h3 HTH HS2;go_wp2_with fail;refine HT3.out.mono ?_;rintro e w4 ⟨v,rfl,h4⟩;have H4:=ad h4;clear h4 HT3;go_wp2;go_ret;exact⟨v,rfl,H4.out⟩
set_option maxHeartbeats 16000000 in
set_option maxRecDepth 100000 in
theorem xK (x0 x1 ep now:Int) (hf:x0≠ep) (hC:∀Z,Below w.heap.size w Z->Z.cell? ⟨nb,4,none⟩=some (.int .i64 ep))
 (HR:Calls prog 13 #[.iface 45 (.agg #[.int .i64 x0,.int .i64 x1])] w (fun e w'=>e=.returned (.bool true)/\Below w.heap.size w w'))
 (HN:∀Z,Below w.heap.size w Z->P1 Z)
 (HS:∀Z,P1 Z->Calls prog 35 #[.pointer (some ⟨nb,0,none⟩)] Z (fun e w'=>e=.returned (.tuple #[])/\P2 w'))
 (HT:∀Z,P2 Z->Calls prog 38 #[.pointer (some ⟨nb,0,none⟩)] Z (fun e w'=>∃v,e=.returned v/\Q v w')) :
 Calls prog 10 #[.pointer (some ⟨nb,0,none⟩),.int .i64 0,.iface 45 (.agg #[.int .i64 x0,.int .i64 x1]),.int .i64 now] w fun e w'=>∃v,e=.returned v/\Q v w':=by
 have a47:=fun (v:Value) (w:World)=>eZ 45 v w;have a45:=fun (v:Value) (w:World)=>dS 45 v w;have a42:=fun (v:Value) (w:World)=>fZ 45 v w;have a49:=fun (v:Value) (w:World)=>i7 45 v w;have h47:¬45=47:=by decide
 have h42:¬45=42:=by decide
 have h49:¬45=49:=by decide
 simp only[if_neg h47,if_neg h42,if_neg h49,decide_eq_false h47,decide_eq_false h42,decide_eq_false h49,if_true,decide_true]at a47 a45 a42 a49;have hf0:(x0==ep)=false:=by rw[beq_eq_false_iff_ne];exact hf
 have HCH:=ad hC;have HRH:=ad HR;have HNH:=ad HN;have HSH:=ad HS;have HTH:=ad HT;clear HR HN HS HT h47 h42 h49 hf hC;go_enter func10,ntmps10;go_wp2_with fail;refine HRH.out.mono ?_;rintro e w1 ⟨rfl,b1⟩;have HB1:=ad b1;clear b1 HRH;have c4:=HCH.out _ (an (an HB1.out (.cells #[.int .i64 0,.slice none 0 0,.slice none 0 0,.slice none 0 0] 47)) (.cells #[.int .i64 x0,.int .i64 x1] 45));go_wp2;go_quiet (fail);go_wp2_with fail;refine(HSH.out _ (HNH.out _ (by repeat (first|exact HB1.out|refine an ?_ _|refine fY ?_ _)))).mono ?_;rintro e w3 ⟨rfl,h3⟩;have HT3:=ad (HTH.out _ h3);clear h3 HTH HSH HNH HB1 HCH c4;go_wp2_with fail;refine HT3.out.mono ?_;rintro e w4 ⟨v,rfl,h4⟩;have H4:=ad h4;clear h4 HT3;go_wp2;go_ret;exact⟨v,rfl,H4.out⟩
set_option maxHeartbeats 16000000 in
set_option maxRecDepth 100000 in
theorem take_append {id ex se sq:Int} {S:ByteArray} {sa:Option Addr} {sl sc:Nat} (fr now:Int) (hf:1000<fr)
 (HR:Calls prog 13 #[.iface 42 (.agg #[.int .i64 id,.string S,.int .i64 ex,.int .i64 se,.int .i64 sq,.slice sa sl sc])] w (fun e w'=>e=.returned (.bool true)/\Below w.heap.size w w'))
 (HA:∀Z,Below w.heap.size w Z->Calls prog 34 #[.pointer (some ⟨nb,0,none⟩),.int .i64 fr,.agg #[.int .i64 id,.string S,.int .i64 ex,.int .i64 se,.int .i64 sq,.slice sa sl sc]] Z (fun e w'=>e=.returned (.tuple #[])/\P1 w'))
 (hP:∀Z Z',P1 Z->Below Z.heap.size Z Z'->P1 Z')
 (HS:∀Z,P1 Z->Calls prog 35 #[.pointer (some ⟨nb,0,none⟩)] Z (fun e w'=>e=.returned (.tuple #[])/\P2 w'))
 (HT:∀Z,P2 Z->Calls prog 38 #[.pointer (some ⟨nb,0,none⟩)] Z (fun e w'=>∃v,e=.returned v/\Q v w')) :
 Calls prog 10 #[.pointer (some ⟨nb,0,none⟩),.int .i64 fr,.iface 42 (.agg #[.int .i64 id,.string S,.int .i64 ex,.int .i64 se,.int .i64 sq,.slice sa sl sc]),.int .i64 now] w fun e w'=>∃v,e=.returned v/\Q v w':=by
 have a47:=fun (v:Value) (w:World)=>eZ 42 v w;have a45:=fun (v:Value) (w:World)=>dS 42 v w;have a42:=fun (v:Value) (w:World)=>fZ 42 v w;have a49:=fun (v:Value) (w:World)=>i7 42 v w;have h47:¬42=47:=by decide
 have h45:¬42=45:=by decide
 have h49:¬42=49:=by decide
 simp only[if_neg h47,if_neg h45,if_neg h49,decide_eq_false h47,decide_eq_false h45,decide_eq_false h49,if_true,decide_true]at a47 a45 a42 a49;have HRH:=ad HR;have HAH:=ad HA;have HPH:=ad hP;have HSH:=ad HS;have HTH:=ad HT;have hf1:1<=fr:=by omega
 have hf2:¬fr<=100:=by omega
 clear HR HA hP HS HT h47 h45 h49;go_enter func10,ntmps10;go_wp2_with fail;refine HRH.out.mono ?_;rintro e w1 ⟨rfl,b1⟩;have HB1:=ad b1;clear b1 HRH;go_wp2;go_quiet (fail);go_wp2_with fail;refine(HAH.out _ (by repeat (first|exact HB1.out|refine an ?_ _|refine fY ?_ _))).mono ?_;rintro e w2 ⟨rfl,h2⟩;have HS2:=ad (HSH.out _ (HPH.out _ _ h2 (an (o:=.cells #[.int .i64 0,.string ⟨#[]⟩,.int .i64 0] 49) (ae _ w2))));clear h2 HAH HSH HPH HB1;go_wp2_with fail;refine HS2.out.mono ?_;rintro e w3 ⟨rfl,h3⟩;have HT3:=ad (HTH.out _ h3);clear h3 HTH HS2;go_wp2_with fail;refine HT3.out.mono ?_;rintro e w4 ⟨v,rfl,h4⟩;have H4:=ad h4;clear h4 HT3;go_wp2;go_ret;exact⟨v,rfl,H4.out⟩
set_option maxHeartbeats 16000000 in
set_option maxRecDepth 100000 in
theorem wK {id z:Int} {S:ByteArray} (fr now:Int) (hf:1000<fr)
 (HR:Calls prog 13 #[.iface 49 (.agg #[.int .i64 id,.string S,.int .i64 z])] w (fun e w'=>e=.returned (.bool true)/\Below w.heap.size w w'))
 (HA:∀Z b,Below w.heap.size w Z->w.heap.size<=b->Z.heap[b]?=some (.cells #[.int .i64 id,.string S,.int .i64 z] 49 (0,0))->Calls prog 35 #[.pointer (some ⟨nb,0,none⟩)] Z (fun e w'=>e=.returned (.tuple #[])/\P0 w'/\w'.heap[b]?=some (.cells #[.int .i64 id,.string S,.int .i64 z] 49 (0,0))))
 (hP:∀Z,P0 Z->Calls prog 36 #[.pointer (some ⟨nb,0,none⟩),.int .i64 fr,.agg #[.int .i64 id,.string S,.int .i64 z],.int .i64 now] Z (fun e w'=>e=.returned (.tuple #[])/\P1 w'))
 (HS:∀Z,P1 Z->Calls prog 35 #[.pointer (some ⟨nb,0,none⟩)] Z (fun e w'=>e=.returned (.tuple #[])/\P2 w'))
 (HT:∀Z,P2 Z->Calls prog 38 #[.pointer (some ⟨nb,0,none⟩)] Z (fun e w'=>∃v,e=.returned v/\Q v w')) :
 Calls prog 10 #[.pointer (some ⟨nb,0,none⟩),.int .i64 fr,.iface 49 (.agg #[.int .i64 id,.string S,.int .i64 z]),.int .i64 now] w fun e w'=>∃v,e=.returned v/\Q v w':=by
 have a47:=fun (v:Value) (w:World)=>eZ 49 v w;have a45:=fun (v:Value) (w:World)=>dS 49 v w;have a42:=fun (v:Value) (w:World)=>fZ 49 v w;have a49:=fun (v:Value) (w:World)=>i7 49 v w;have h47:¬49=47:=by decide
 have h45:¬49=45:=by decide
 have h42:¬49=42:=by decide
 simp only[if_neg h47,if_neg h45,if_neg h42,decide_eq_false h47,decide_eq_false h45,decide_eq_false h42,if_true,decide_true]at a47 a45 a42 a49;have HRH:=ad HR;have HAH:=ad HA;have HPH:=ad hP;have HSH:=ad HS;have HTH:=ad HT;have hf1:1<=fr:=by omega
 have hf2:¬fr<=100:=by omega
 clear HR HA hP HS HT h47 h45 h42;go_enter func10,ntmps10;go_wp2_with fail;refine HRH.out.mono ?_;rintro e w1 ⟨rfl,b1⟩;have HB1:=ad b1;clear b1 HRH;go_wp2;go_quiet (fail);go_wp2_with fail;refine(HAH.out _ (w1.heap.size+3) (by repeat (first|exact HB1.out|refine an ?_ _|refine fY ?_ _)) ?bsz ?bnew).mono ?_
 case bnew=>exact newAt (heap_alloc_new _ _) (by simp[World.size_alloc,World.drewN])
 case bsz=>have:=HB1.out.size;omega
 rintro e w2 ⟨rfl,h2,hbx⟩;have m0:w2.cell? ⟨w1.heap.size+3,0,none⟩=some (.int .i64 id):=aq hbx rfl;have m1:w2.cell? ⟨w1.heap.size+3,1,none⟩=some (.string S):=aq hbx rfl;have m2:w2.cell? ⟨w1.heap.size+3,2,none⟩=some (.int .i64 z):=aq hbx rfl;have HP2:=ad (HPH.out _ h2);clear h2 HAH HPH HB1 hbx;go_wp2_with fail;refine HP2.out.mono ?_;rintro e w2b ⟨rfl,h2⟩;have HS2:=ad (HSH.out _ h2);clear h2 HSH HP2 m0 m1 m2;go_wp2_with fail;refine HS2.out.mono ?_;rintro e w3 ⟨rfl,h3⟩;have HT3:=ad (HTH.out _ h3);clear h3 HTH HS2;go_wp2_with fail;refine HT3.out.mono ?_;rintro e w4 ⟨v,rfl,h4⟩;have H4:=ad h4;clear h4 HT3;go_wp2;go_ret;exact⟨v,rfl,H4.out⟩
set_option maxHeartbeats 16000000 in
set_option maxRecDepth 100000 in
theorem vn (x1 ep l now:Int) (hC:∀Z,Below w.heap.size w Z->Z.cell? ⟨nb,4,none⟩=some (.int .i64 ep)/\Z.cell? ⟨nb,8,none⟩=some (.int .i64 l)/\Z.frozen? ⟨nb,8,none⟩=false)
 (HR:Calls prog 13 #[.iface 45 (.agg #[.int .i64 ep,.int .i64 x1])] w (fun e w'=>e=.returned (.bool true)/\Below w.heap.size w w'))
 (HN:∀Z,Below w.heap.size w Z->P1 (Z.setCell ⟨nb,8,none⟩ (.int .i64 (max l x1))))
 (hP:∀Z Z',P1 Z->Below Z.heap.size Z Z'->P1 Z')
 (HS:∀Z,P1 Z->Calls prog 35 #[.pointer (some ⟨nb,0,none⟩)] Z (fun e w'=>e=.returned (.tuple #[])/\P2 w'))
 (HT:∀Z,P2 Z->Calls prog 38 #[.pointer (some ⟨nb,0,none⟩)] Z (fun e w'=>∃v,e=.returned v/\Q v w')) :
 Calls prog 10 #[.pointer (some ⟨nb,0,none⟩),.int .i64 0,.iface 45 (.agg #[.int .i64 ep,.int .i64 x1]),.int .i64 now] w fun e w'=>∃v,e=.returned v/\Q v w':=by
 have a47:=fun (v:Value) (w:World)=>eZ 45 v w;have a45:=fun (v:Value) (w:World)=>dS 45 v w;have a42:=fun (v:Value) (w:World)=>fZ 45 v w;have a49:=fun (v:Value) (w:World)=>i7 45 v w;have h47:¬45=47:=by decide
 have h42:¬45=42:=by decide
 have h49:¬45=49:=by decide
 simp only[if_neg h47,if_neg h42,if_neg h49,decide_eq_false h47,decide_eq_false h42,decide_eq_false h49,if_true,decide_true]at a47 a45 a42 a49;have hf0:(ep==ep)=true:=by simp
 have HCH:=ad hC;have HRH:=ad HR;have HNH:=ad HN;have HPH:=ad hP;have HSH:=ad HS;have HTH:=ad HT;clear HR HN HS HT h47 h42 h49 hC hP;go_enter func10,ntmps10;go_wp2_with fail;refine HRH.out.mono ?_;rintro e w1 ⟨rfl,b1⟩;have HB1:=ad b1;clear b1 HRH;have cc:=HCH.out _ (an (an HB1.out (.cells #[.int .i64 0,.slice none 0 0,.slice none 0 0,.slice none 0 0] 47)) (.cells #[.int .i64 ep,.int .i64 x1] 45));have c4:=cc.1;have c8:=cc.2.1;have f8:=cc.2.2;clear cc;go_wp2;go_quiet (fail);go_upto_region 8 with fail;go_cut [] (fun wx=>∃Z,Below w.heap.size w Z/\wx=Z.setCell ⟨nb,8,none⟩ (.int .i64 (max l x1)))
 case first =>
  go_region
  all_goals go_wp2
  all_goals go_meet
  all_goals exact⟨_,by repeat (first|exact HB1.out|refine an ?_ _|refine fY ?_ _),rfl⟩
 case rest =>
  obtain⟨Z,hZ,rfl⟩:=hcut;have HZ:=ad (HNH.out Z hZ);clear hZ HNH HCH HB1 c4 c8 f8;go_wp2_with fail;refine(HSH.out _ (HPH.out _ _ HZ.out (by repeat (first|exact ae _ _|refine an ?_ _|refine fY ?_ _)))).mono ?_;rintro e w3 ⟨rfl,h3⟩;have HT3:=ad (HTH.out _ h3);clear h3 HTH HSH HPH HZ;go_wp2_with fail;refine HT3.out.mono ?_;rintro e w4 ⟨v,rfl,h4⟩;have H4:=ad h4;clear h4 HT3;go_wp2;go_ret;exact⟨v,rfl,H4.out⟩
set_option maxHeartbeats 16000000 in
set_option maxRecDepth 100000 in
theorem wJ {ep:Int} {ca sa ba:Option Addr} {cl cc sl sc bl bc:Nat} (now:Int)
 (HR:Calls prog 13 #[.iface 47 (.agg #[.int .i64 ep,.slice ca cl cc,.slice sa sl sc,.slice ba bl bc])] w (fun e w'=>e=.returned (.bool true)/\Below w.heap.size w w'))
 (HA:∀Z,Below w.heap.size w Z->Calls prog 33 #[.pointer (some ⟨nb,0,none⟩),.agg #[.int .i64 ep,.slice ca cl cc,.slice sa sl sc,.slice ba bl bc]] Z (fun e w'=>e=.returned (.tuple #[])/\P1 w'))
 (hP:∀Z Z',P1 Z->Below Z.heap.size Z Z'->P1 Z')
 (HS:∀Z,P1 Z->Calls prog 35 #[.pointer (some ⟨nb,0,none⟩)] Z (fun e w'=>e=.returned (.tuple #[])/\P2 w'))
 (HT:∀Z,P2 Z->Calls prog 38 #[.pointer (some ⟨nb,0,none⟩)] Z (fun e w'=>∃v,e=.returned v/\Q v w')) :
 Calls prog 10 #[.pointer (some ⟨nb,0,none⟩),.int .i64 0,.iface 47 (.agg #[.int .i64 ep,.slice ca cl cc,.slice sa sl sc,.slice ba bl bc]),.int .i64 now] w fun e w'=>∃v,e=.returned v/\Q v w':=by
 have a47:=fun (v:Value) (w:World)=>eZ 47 v w;have a45:=fun (v:Value) (w:World)=>dS 47 v w;have a42:=fun (v:Value) (w:World)=>fZ 47 v w;have a49:=fun (v:Value) (w:World)=>i7 47 v w;have h45:¬47=45:=by decide
 have h42:¬47=42:=by decide
 have h49:¬47=49:=by decide
 simp only[if_neg h45,if_neg h42,if_neg h49,decide_eq_false h45,decide_eq_false h42,decide_eq_false h49,if_true,decide_true]at a47 a45 a42 a49;have HRH:=ad HR;have HAH:=ad HA;have HPH:=ad hP;have HSH:=ad HS;have HTH:=ad HT;clear HR HA hP HS HT h45 h42 h49;go_enter func10,ntmps10;go_wp2_with fail;refine HRH.out.mono ?_;rintro e w1 ⟨rfl,b1⟩;have HB1:=ad b1;clear b1 HRH;go_wp2_with fail;refine(HAH.out _ (by repeat (first|exact HB1.out|refine an ?_ _|refine fY ?_ _))).mono ?_;rintro e w2 ⟨rfl,h2⟩;have H2:=ad h2;clear h2 HAH HB1;go_wp2;go_quiet (fail);go_wp2_with fail;refine(HSH.out _ (HPH.out w2 _ H2.out (by repeat (first|exact ae _ _|refine an ?_ _|refine fY ?_ _)))).mono ?_;rintro e w3 ⟨rfl,h3⟩;have HT3:=ad (HTH.out _ h3);clear h3 HTH HSH HPH H2;go_wp2_with fail;refine HT3.out.mono ?_;rintro e w4 ⟨v,rfl,h4⟩;have H4:=ad h4;clear h4 HT3;go_wp2;go_ret;exact⟨v,rfl,H4.out⟩
end
structure Vw where
 ep:Int
 ch:List Int
 si:List Int
 bo:List Int
structure q_gk where
 ca:Option Addr
 cc:Nat
 sa:Option Addr
 sc:Nat
 ba:Option Addr
 bc:Nat
def dw (V:Vw) (A:q_gk):Value:=.agg #[.int .i64 V.ep,.slice A.ca V.ch.length A.cc,.slice A.sa V.si.length A.sc,.slice A.ba V.bo.length A.bc]
def fE (w:World) (V:Vw) (A:q_gk):Prop:=Cells w (.slice A.ca V.ch.length A.cc) 1 V.ch.length (aE V.ch)/\Cells w (.slice A.sa V.si.length A.sc) 1 V.si.length (aE V.si)/\Cells w (.slice A.ba V.bo.length A.bc) 1 V.bo.length (aE V.bo)/\V.ch.length<=A.cc
theorem fE.next {w w':World} {V:Vw} {A:q_gk} (h:fE w V A) (hb:Below w.heap.size w w'):fE w' V A:=⟨h.1.next hb,h.2.1.next hb,h.2.2.1.next hb,h.2.2.2⟩
def eU (V:Vw):Prop:=1<=V.ep/\V.ep<=274877906944/\1<=V.ch.length/\V.ch.length<=6/\V.si.length=V.ch.length/\V.bo.length=V.ch.length /\
 ∀i n s b,V.ch[i]?=some n->V.si[i]?=some s->V.bo[i]?=some b->1<=n/\n<=100/\n∉V.ch.take i/\(∀p,0<i->V.si[i-1]?=some p->p<=s)/\1<=s/\s<=V.ep/\0<=b/\b<=274877906944
def il:List Int->Int->Nat->Int
 |[],_,_=>-1
 |x::l,n,k=>if n=x then k else il l n (k+1)
theorem xi (l:List Int) (n:Int):∀i,(∀k<i,l[k]?≠some n)->i<=l.length->il l n 0=il (l.drop i) n i:=by
 intro i
 induction i with
 |zero=>intro _ _;rfl
 |succ i ih =>
  intro h hi;rw[ih (fun k hk=>h k (by omega)) (by omega),List.drop_eq_getElem_cons (by omega:i<l.length),il,if_neg];intro e;exact h i (by omega) (by rw[aR (by omega),e])
theorem xh (v:Value) (l:List Int) (n:Int) (w:World) (hc:Cells w v 1 l.length (aE l)) (hn:l.length<=1000000) :
 Calls prog 113 #[v,.int .i64 n] w fun e w'=>e=.returned (.int .i64 (il l n 0))/\w=w':=by
 obtain⟨va,vc,rfl⟩:=aJ hc;have HC:=ad hc;clear hc;go_enter func113,ntmps113;go_wp2
 go_loopw [8] (fun lv wr=>∃i:Nat,lv=.int .i64 i/\i<=l.length/\w=wr/\Hid (∀k<i,l[k]?≠some n)) (fun lv _=>l.length-(intOf lv).toNat)
 case atStart=>exact⟨0,rfl,by omega,rfl,ad (fun k hk=>absurd hk (by omega))⟩
 case round =>
  obtain⟨i,rfl,hi,rfl,HK⟩:=hrel;by_cases hp:i<l.length
  ·obtain⟨b,o,c,hv,q0⟩:=lM HC.out i hp;cases hv;obtain⟨x,hx⟩:∃x,l[i]=x:=⟨_,rfl⟩;rw[hx]at q0;have HX:=ad (show l[i]?=some x by rw[aR hp,hx]);have HR:=ad (show il l n 0=if n=x then (i:Int) else il (l.drop (i+1)) n (i+1)by
    rw[xi l n i HK.out hi,List.drop_eq_getElem_cons hp,il,hx])
   clear hx;by_cases he:n=x
   ·have HE:=ad (show il l n 0=(i:Int)by rw[HR.out,if_pos he]);subst he;clear HR HK;go_wp2;go_ret;exact⟨by rw[HE.out];rfl,rfl⟩
   ·have HK2:=ad (show ∀k<i+1,l[k]?≠some n from fun k hk e=>by
     by_cases hki:k=i
     ·subst hki;rw[HX.out]at e;simp only[Option.some.injEq]at e;exact he e.symm
     ·exact HK.out k (by omega) e)
    clear HR HK;go_wp2;exact⟨⟨i+1,by go_num,by omega,by first|rfl|trivial,HK2⟩,by simp[intOf];omega⟩
  ·obtain rfl:i=l.length:=by omega
   have HE:=ad (show il l n 0 = -1 by rw[xi l n _ HK.out ab,List.drop_length];rfl);clear HK;go_wp2;go_ret;exact⟨by rw[HE.out];rfl,rfl⟩
theorem JJ (l:List Int) (n:Int):∀k,decide (0<=il l n k)=decide (n∈l):=by
 induction l with
 |nil=>intro k;simp[il]
 |cons x l ih =>
  intro k;unfold il;by_cases h:n=x
  ·rw[if_pos h];simp[h]
  ·rw[if_neg h,ih];simp[h]
theorem Ay (v:Value) (l:List Int) (n:Int) (w:World) (hc:Cells w v 1 l.length (aE l)) (hn:l.length<=1000000) :
 Calls prog 156 #[v,.int .i64 n] w fun e w'=>e=.returned (.bool (decide (n∈l)))/\w=w':=by
 have HI:=ad (xh v l n w hc hn);have HG:=ad (JJ l n 0);clear hc;go_enter func156,ntmps156;go_wp2_with fail;refine HI.out.mono ?_;rintro e w1 ⟨rfl,rfl⟩;go_wp2;go_ret;exact⟨by rw[<-HG.out];rfl,rfl⟩
theorem GC (v:Value) (l:List Int) (i:Nat) (n:Int) (w:World) (hc:Cells w v 1 l.length (aE l)) (_hl:l.length<=1000000) (hi:l[i]?=some n) :
 Calls prog 157 #[v,.int .i64 i] w fun e w'=>e=.returned (.int .i64 n)/\w=w':=by
 obtain⟨va,vc,rfl⟩:=aJ hc;have hlt:=(List.getElem?_eq_some_iff.1 hi).1;obtain⟨b,o,c,hv,q0⟩:=lM hc i hlt;rw[(List.getElem?_eq_some_iff.1 hi).2]at q0;cases hv;clear hc hi;go_enter func157,ntmps157;go_wp2;go_ret;exact⟨rfl,rfl⟩
theorem CR (v:Value) (l:List Int) (i:Int) (w:World) (hc:Cells w v 1 l.length (aE l)) (_hl:l.length<=1000000) (hi:i<0\/(l.length:Int)<=i) :
 Calls prog 157 #[v,.int .i64 i] w fun e w'=>e=.returned (.int .i64 0)/\Below w.heap.size w w':=by
 obtain⟨va,vc,rfl⟩:=aJ hc;clear hc;by_cases h0:i<0
 ·clear hi;go_enter func157,ntmps157;go_wp2;go_ret;exact⟨rfl,an (ae _ w) _⟩
 ·have h1:(l.length:Int)<=i:=by omega
  clear hi;go_enter func157,ntmps157;go_wp2;go_ret;exact⟨rfl,an (ae _ w) _⟩
end Go.Proofs.YtmgmknmaepjnoaaGreatDoor
