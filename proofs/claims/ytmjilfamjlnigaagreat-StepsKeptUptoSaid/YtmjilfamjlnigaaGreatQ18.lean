/- WALKS: a thread's state, the document's own way: small functions of chapter 13. -/
import Derived.Test.YtmjilfamjlnigaaGreatQ16
import Derived.Test.YtmjilfamjlnigaaGreatQ17
import Derived.Test.YtmjilfamjlnigaaGreatQ06
namespace Go.Proofs.YtmjilfamjlnigaaGreat.RefW
open Go Go.RowKit Kit SrcP SrcW
set_option maxRecDepth 100000 in
set_option maxHeartbeats 4000000 in
theorem Of_any (A B:Option Addr) (c d:Nat) (e:List SrcP.Node) (locals:List Nat) (hev:EvalsAll locals.length e) (w:World) (he:NodesAt w (.slice A e.length c) e) (hl:U64At w (.slice B locals.length d) locals) :
  Calls Tryz.prog 127 #[.slice A e.length c,.slice B locals.length d] w fun r w'=>r=.returned (.int .u64 (value e locals:Nat))∧Below w.heap.size w w':=by
 have h0:=hev.1
 have HA:=Lib.hid (at_any A B c d e locals hev (e.length-1) (by omega) w he hl)
 rw[show((e.length-1:Nat):Int)=(e.length:Int)-1 by omega]at HA
 rw[←value_vAt]at HA
 go_enter Tryz.func127,Tryz.ntmps127
 go_wp2_with (go_at_call 158;refine HA.out.mono ?_;rintro e w5 ⟨rfl,hb5⟩)
 go_ret
 exact⟨rfl,hb5⟩
def halfR (m:Int):Int:=if m=2 then 2 else if m=3 then 1 else if m=4 then 2 else if m=5 then 5 else 1
def halfW (m:Int):Int:=if m=2 then 1 else if m=3 then 3 else if m=4 then 3 else if m=5 then 5 else 1
theorem half_eq (m:Int) (h:1≤m∧m≤5):halfR m=reading m∧halfW m=writing m:=by
 have:m=1∨m=2∨m=3∨m=4∨m=5:=by omega
 rcases this with rfl | rfl | rfl | rfl | rfl <;> exact⟨rfl,rfl⟩
set_option maxRecDepth 100000 in
set_option maxHeartbeats 4000000 in
theorem Halves_any (m:Int) (w:World):Calls Tryz.prog 125 #[.int .i64 m] w fun e w'=>e=.returned (.tuple #[.int .i64 (halfR m),.int .i64 (halfW m)])∧w'=w:=by
 by_cases h2:m=2
 ·subst h2
  go_enter Tryz.func125,Tryz.ntmps125
  go_wp2_with fail
  refine bodyPost_ret (v:=.tuple #[.int .i64 2,.int .i64 1]) (by simp[results,Tryz.results125,go_sem]) rfl ?_
  exact⟨rfl,rfl⟩
 have q2:(m == 2)=false:=by simp[h2]
 by_cases h3:m=3
 ·subst h3
  go_enter Tryz.func125,Tryz.ntmps125
  go_wp2_with fail
  refine bodyPost_ret (v:=.tuple #[.int .i64 1,.int .i64 3]) (by simp[results,Tryz.results125,go_sem]) rfl ?_
  exact⟨rfl,rfl⟩
 have q3:(m == 3)=false:=by simp[h3]
 by_cases h4:m=4
 ·subst h4
  go_enter Tryz.func125,Tryz.ntmps125
  go_wp2_with fail
  refine bodyPost_ret (v:=.tuple #[.int .i64 2,.int .i64 3]) (by simp[results,Tryz.results125,go_sem]) rfl ?_
  exact⟨rfl,rfl⟩
 have q4:(m == 4)=false:=by simp[h4]
 by_cases h5:m=5
 ·subst h5
  go_enter Tryz.func125,Tryz.ntmps125
  go_wp2_with fail
  refine bodyPost_ret (v:=.tuple #[.int .i64 5,.int .i64 5]) (by simp[results,Tryz.results125,go_sem]) rfl ?_
  exact⟨rfl,rfl⟩
 have q5:(m == 5)=false:=by simp[h5]
 have e1:halfR m=1:=by simp[halfR,h2,h3,h4,h5]
 have e2:halfW m=1:=by simp[halfW,h2,h3,h4,h5]
 rw[e1,e2]
 go_enter Tryz.func125,Tryz.ntmps125
 go_wp2_with fail
 refine bodyPost_ret (v:=.tuple #[.int .i64 1,.int .i64 1]) (by simp[results,Tryz.results125,go_sem]) rfl ?_
 exact⟨rfl,rfl⟩
def PlaceEv (nl:Nat) (a:SrcP.Act):Prop:=0≤a.size∧(0≤a.base∧a.base≤4096)∧(a.size≠0→a.size≤1024∧EvalsAll nl a.index)
set_option maxRecDepth 100000 in
set_option maxHeartbeats 4000000 in
theorem Loc_any (a:SrcP.Act) (vi ve vf:Value) (B:Option Addr) (d:Nat) (locals:List Nat) (hp:PlaceEv locals.length a) (w:World) (ha:ActV w vi ve vf a) (hl:U64At w (.slice B locals.length d) locals) :
  Calls Tryz.prog 126 #[.agg (actC a vi ve vf),.slice B locals.length d] w fun r w'=>r=.returned (.int .i64 (locS a locals))∧Below w.heap.size w w':=by
 unfold actC
 have HA:=Lib.hid ha
 have HL:=Lib.hid hl
 obtain⟨op,dst,base,size,index,e,f,mode,to_,line,col⟩:=a
 simp only[PlaceEv]at HA hp ⊢
 clear ha hl
 by_cases hz:size=0
 ·subst hz
  go_enter Tryz.func126,Tryz.ntmps126
  go_wp2_with fail
  go_ret
  exact⟨rfl,Kit.bl1⟩
 ·obtain⟨h0,hbs,h1⟩:=hp
  obtain⟨h2,hev⟩:=h1 hz
  obtain⟨n,rfl⟩:=Int.eq_ofNat_of_zero_le h0
  obtain⟨I,ci,rfl,_⟩:=HA.out.index
  have HO:Hid (∀w2,Below w.heap.size w w2→Calls Tryz.prog 127 #[.slice I index.length ci,.slice B locals.length d] w2 fun r w'=>r=.returned (.int .u64 (value index locals:Nat))∧Below w2.heap.size w2 w') :=
   Lib.hid fun w2 hb=>Of_any I B ci d index locals hev w2 (HA.out.index.below hb) (HL.out.below hb)
  have q0:((n:Int) == 0)=false:=by simpa using hz
  have hn:(n:Int)≠0:=hz
  have hw:IntKind.u64.wrap (n:Int)=(n:Int):=by rw[IntKind.wrap_u64];omega
  have hm:value index locals % n<n:=Nat.mod_lt _ (by omega)
  have hw2:IntKind.i64.wrap ((value index locals % n:Nat):Int)=((value index locals % n:Nat):Int):=by rw[IntKind.wrap_i64];omega
  have hloc:locS ⟨op,dst,base,(n:Int),index,e,f,mode,to_,line,col⟩ locals=base+((value index locals % n:Nat):Int):=by unfold locS;simp only;rw[if_neg hz];rfl
  rw[hloc]
  clear hloc
  generalize value index locals=x at *
  go_enter Tryz.func126,Tryz.ntmps126
  go_upto_region 3 with fail
  obtain⟨w5,hw5⟩:∃y,y=w.alloc (.cells #[.int .i64 op,.int .i64 dst,.int .i64 base,.int .i64 n,.slice I index.length ci,ve,vf,.int .i64 mode,.int .i64 to_,.int .i64 line,.int .i64 col] 58):=⟨_,rfl⟩
  have hb5:Below w.heap.size w w5:=by rw[hw5];exact Kit.bl1
  have hA5:Blk w5 w.heap.size 58 #[.int .i64 op,.int .i64 dst,.int .i64 base,.int .i64 n,.slice I index.length ci,ve,vf,.int .i64 mode,.int .i64 to_,.int .i64 line,.int .i64 col]:=by rw[hw5];exact Blk.new _ _ _
  rw[←hw5]
  clear hw5
  generalize hgl:w.heap.size=gl at *
  have HGL:=Lib.hid hgl
  clear hgl
  have k2:∀p:Cls (Below w5.heap.size w5),p.w.cell? ⟨gl,2,none⟩=some (.int .i64 base):=fun p=>(hA5.below' p.h).cell 2
  have k3:∀p:Cls (Below w5.heap.size w5),p.w.cell? ⟨gl,3,none⟩=some (.int .i64 n):=fun p=>(hA5.below' p.h).cell 3
  have k4:∀p:Cls (Below w5.heap.size w5),p.w.cell? ⟨gl,4,none⟩=some (.slice I index.length ci):=fun p=>(hA5.below' p.h).cell 4
  have hlt:=hA5.lt
  have HC:∀p:Cls (Below w5.heap.size w5),Hid (Calls Tryz.prog 127 #[.slice I index.length ci,.slice B locals.length d] p.w fun r w'=>r=.returned (.int .u64 (x:Int))∧∃q:Cls (Below w5.heap.size w5),w'=q.w):=fun p =>
   Lib.hid (Calls.cls ((HO.out p.w (hb5.trans (p.h.mono (Nat.le_of_lt hlt)))).mono fun e w' h=>⟨h.1,Kit.Below.then p.h h.2⟩))
  refine wp_region_cls (Below w5.heap.size w5) (Below_drewN _ 1) (by kernel_rfl) (by kernel_rfl) ?_
  intro hne
  repeat (go_big_quiet_step ((go_at_call 127;exact(HC _).out)))
  refine wpQuiet_nil ?_
  intro w6 hb6
  clear hne
  go_wp2_with fail
  go_ret
  refine⟨congrArg (fun x:Int=>Ending.returned (.int .i64 x)) ?_,?_⟩
  ·first | rfl | omega | simp
  ·rw[HGL.out];exact hb5.trans (hb6.mono (Nat.le_of_lt hlt))
theorem u64_own {w:World} {lo:Nat} {v:Value} {l:List Nat} (h:w.ownsRow lo 40 1 v l.length (l.map u64V)) (hl:∀x∈l,x<M64):U64At w v l:=by
 obtain⟨a,c,rfl,_⟩:=OwnR.own_slice h
 refine⟨a,c,rfl,fun i x hi=>⟨hl x (List.mem_of_getElem? hi),?_⟩⟩
 have hil:=(List.getElem?_eq_some_iff.1 hi).1
 obtain⟨g,cap,hv,_,_,_,_,hc⟩:=OwnR.own_cells h (by omega)
 injection hv with hv
 refine⟨_,hv,?_⟩
 rw[show Addr.add ⟨g,0,none⟩ i=⟨g,i,none⟩ by unfold Addr.add;split <;> simp_all]
 exact hc i _ (by rw[List.getElem?_map,hi];rfl)
def U64O (w:World) (v:Value) (l:List Nat):Prop:=w.ownsRow 0 40 1 v l.length (l.map u64V)
theorem U64O.below {w w':World} {v:Value} {l:List Nat} (h:U64O w v l) (hb:Below w.heap.size w w'):U64O w' v l:=OwnR.own_stays h fun k hk=>hb.block k (OwnR.own_lt h hk)
theorem U64O.kept {w w':World} {v:Value} {l:List Nat} {g:Nat} {t:TypeId} {cs:Array Value} (h:U64O w v l) (hg:Blk w g t cs) (ht:40≠t) (hk:∀k,k≠g→w'.heap[k]?=w.heap[k]?):U64O w' v l :=
 OwnR.own_stays h fun k hk2=>hk k (fun e=>OwnR.own_type h hg ht (by rw[hk2,e]))
def stC (lc:Int) (va:Value) (s:RS) (vl:Value):Array Value:=#[.int .i64 lc,va,.int .i64 (s.at_:Int),vl]
structure StV (nc nl:Nat) (w:World) (va vl:Value) (s:RS):Prop where
 acts:ActsAt w va s.acts
 locs:U64O w vl s.locals
 ok:MchW nc nl s.m
theorem StV.u64 {nc nl:Nat} {w:World} {va vl:Value} {s:RS} (h:StV nc nl w va vl s):U64At w vl s.locals:=u64_own h.locs h.ok.lt
theorem StV.below {nc nl:Nat} {w w':World} {va vl:Value} {s:RS} (h:StV nc nl w va vl s) (hb:Below w.heap.size w w'):StV nc nl w' va vl s:=⟨h.acts.below hb,h.locs.below hb,h.ok⟩
structure NextA (nc nl:Nat) (w:World) (A:Option Addr) (s:RS) (a:SrcP.Act) (ad:Addr) (vi ve vf:Value):Prop where
 addr:A=some ad
 cells:CellsAt w (ad.add (s.at_*11)) (actC a vi ve vf).toList
 actV:ActV w vi ve vf a
 lt:s.at_<s.acts.length
 well:ActWell nc nl s.acts.length a
theorem StV.next {nc nl:Nat} {w:World} {A:Option Addr} {c:Nat} {vl:Value} {s:RS} (h:StV nc nl w (.slice A s.acts.length c) vl s) {a:SrcP.Act} (ha:s.acts[s.at_]?=some a):∃ad vi ve vf,NextA nc nl w A s a ad vi ve vf:=by
 obtain⟨A',c',hv,h1⟩:=h.acts
 obtain⟨rfl,rfl⟩:A=A'∧c=c':=by simpa using hv
 obtain⟨ad,vi,ve,vf,h2,h3,h4⟩:=h1 _ _ ha
 exact⟨ad,vi,ve,vf,h2,h3,h4,(List.getElem?_eq_some_iff.1 ha).1,h.ok.well ha⟩
set_option maxRecDepth 100000 in
set_option maxHeartbeats 4000000 in
theorem Own_any {nc nl:Nat} (lc:Int) (A:Option Addr) (c:Nat) (vl:Value) (s:RS) (w:World) (h:StV nc nl w (.slice A s.acts.length c) vl s) (a:SrcP.Act) (ha:s.acts[s.at_]?=some a) :
  Calls Tryz.prog 79 #[.agg (stC lc (.slice A s.acts.length c) s vl)] w fun r w'=>r=.returned (.bool (ownB a))∧Below w.heap.size w w':=by
 obtain⟨ad,vi,ve,vf,hN⟩:=h.next ha
 obtain⟨rfl,hC,_,hlt,_⟩:=hN
 obtain⟨B,d,rfl,_⟩:=h.u64
 have a1:(s.at_:Int)<(s.acts.length:Int):=by omega
 have a2:(0:Int)≤(s.at_:Int):=by omega
 unfold stC
 generalize s.at_=k at *
 generalize s.acts.length=n at *
 generalize s.locals.length=nl2 at *
 obtain⟨op,hop⟩:∃op,op=a.op:=⟨_,rfl⟩
 have hob:ownB a=(op == 1 || op == 9 || op == 10):=by rw[hop];rfl
 rw[hob]
 go_enter Tryz.func79,Tryz.ntmps79
 go_upto_region 1 with fail
 obtain⟨w5,hw5⟩:∃y,y=w.alloc (.cells #[.int .i64 lc,.slice (some ad) n c,.int .i64 k,.slice B nl2 d] 82):=⟨_,rfl⟩
 have hb5:Below w.heap.size w w5:=by rw[hw5];exact Kit.bl1
 have hA5:Blk w5 w.heap.size 82 #[.int .i64 lc,.slice (some ad) n c,.int .i64 k,.slice B nl2 d]:=by rw[hw5];exact Blk.new _ _ _
 have n0:w5.cell? (ad.add (k*11))=some (.int .i64 op):=by rw[hop];exact(hC.below hb5) 0 _ rfl
 rw[←hw5]
 have k1:w5.cell? ⟨w.heap.size,1,none⟩=some (.slice (some ad) n c):=hA5.cell 1
 have k2:w5.cell? ⟨w.heap.size,2,none⟩=some (.int .i64 k):=hA5.cell 2
 clear hC hop hob h ha hw5 hA5
 generalize hgl:w.heap.size=gl at *
 have HGL:=Lib.hid hgl
 clear hgl
 by_cases h1:op=1
 ·subst h1
  go_wp2_with fail
  go_ret
  exact⟨rfl,by rw[HGL.out];exact hb5⟩
 by_cases h9:op=9
 ·subst h9
  go_wp2_with fail
  go_ret
  exact⟨rfl,by rw[HGL.out];exact hb5⟩
 by_cases h10:op=10
 ·subst h10
  go_wp2_with fail
  go_ret
  exact⟨rfl,by rw[HGL.out];exact hb5⟩
 have q1:(op == 1)=false:=by simp[h1]
 have q9:(op == 9)=false:=by simp[h9]
 have q10:(op == 10)=false:=by simp[h10]
 go_wp2_with fail
 go_ret
 exact⟨by simp[q1,q9,q10],by rw[HGL.out];exact hb5⟩
set_option maxRecDepth 100000 in
set_option maxHeartbeats 4000000 in
theorem set_any {nc nl:Nat} (lc:Int) (va:Value) (B:Option Addr) (d:Nat) (s:RS) (w:World) (h:StV nc nl w va (.slice B s.locals.length d) s) (dst v:Nat) (hd:dst<s.locals.length) (_hv:v<M64) (hat:s.at_<1048576) :
  Calls Tryz.prog 128 #[.agg (stC lc va s (.slice B s.locals.length d)),.int .i64 (dst:Int),.int .u64 (v:Int)] w fun r w'=>∃g cap,r=.returned (.agg (stC lc va ⟨s.acts,s.at_+1,s.locals.set dst v⟩ (.slice (some ⟨g,0,none⟩) s.locals.length cap)))∧U64O w' (.slice (some ⟨g,0,none⟩) s.locals.length cap) (s.locals.set dst v)∧w.heap.size≤g∧Below w.heap.size w w':=by
 obtain⟨A',c',hva,_⟩:=h.acts
 subst hva
 obtain⟨B',d',hv2,hL⟩:=h.u64
 obtain⟨rfl,rfl⟩:B=B'∧d=d':=by simpa using hv2
 obtain⟨_,ad,rfl,_⟩:=hL dst s.locals[dst] (by simp[hd])
 have hnl:s.locals.length≤24:=by have h1:=h.ok.len;have h2:=h.ok.hnl;simp only[RS.m]at h1;omega
 obtain⟨i0,hi0,hz0,hz1,hz2⟩:=info_parts info_u64
 unfold stC
 have HL:=Lib.hid hL
 generalize hll:s.locals=ll at *
 have hat2:((s.at_+1:Nat):Int)=(s.at_:Int)+1:=by omega
 rw[hat2]
 generalize s.at_=k at *
 generalize s.acts.length=n at *
 clear hL h hv2 hat2 hll
 go_enter Tryz.func128,Tryz.ntmps128
 go_upto_region 1 with fail
 obtain⟨w5,hw5⟩:∃y,y=(w.alloc (.cells #[.int .i64 lc,.slice A' n c',.int .i64 k,.slice (some ad) ll.length d] 82)).alloc (.cells #[.int .i64 0,.slice none 0 0,.int .i64 0,.slice none 0 0] 82):=⟨_,rfl⟩
 have hb5:Below w.heap.size w w5:=by rw[hw5];exact Kit.bl2
 have hA5:Blk w5 w.heap.size 82 #[.int .i64 lc,.slice A' n c',.int .i64 k,.slice (some ad) ll.length d]:=by rw[hw5];exact(Blk.new _ _ _).alloc _
 have hB5:Blk w5 (w.heap.size+1) 82 #[.int .i64 0,.slice none 0 0,.int .i64 0,.slice none 0 0]:=by rw[hw5];exact Blk.newAt (sizeA _ _) _ _
 rw[←hw5]
 clear hw5
 have hlt:=hB5.lt
 generalize hgl:w.heap.size=gl at *
 obtain⟨w6,hw6⟩:∃y,y=w5.alloc (.cells #[] 40):=⟨_,rfl⟩
 have hb6:Below w5.heap.size w5 w6:=by rw[hw6];exact Kit.bl1
 have hG6:Blk w6 w5.heap.size 40 #[]:=by rw[hw6];exact Blk.new _ _ _
 have hown:w6.ownsRow gl 40 1 (.slice (some ⟨w5.heap.size,0,none⟩) 0 0) 0 []:=⟨rfl,.inr ⟨w5.heap.size,0,#[],rfl,by omega,hG6,Nat.le_refl _,by decide,rfl,rfl⟩⟩
 have hnews:∀(j:Nat) (u:Value),(ll.map u64V)[j]?=some u→w6.cell? (ad.add j)=some u:=fun j u hj=>by
  rw[List.getElem?_map]at hj
  cases hx:ll[j]? with
  | none=>rw[hx]at hj;cases hj
  | some x =>
   rw[hx]at hj
   injection hj with hj
   obtain⟨_,ad',had,hc⟩:=HL.out j x hx
   obtain rfl:ad=ad':=by simpa using had
   rw[((hb5.trans (hb6.mono (by omega))).cell (by rw[←hgl];exact World.block_lt_of_cell? w _ hc)),hc,←hj]
   rfl
 have c0:w6.cell? ⟨gl,3,none⟩=some (.slice (some ad) ll.length d):=(hA5.below' hb6).cell 3
 have hml:(16*1048576:Nat)≤maxLen:=by decide
 have hbs:gl≤w6.heap.size:=by have:=hb6.size;omega
 have hone:∀u∈ll.map u64V,u.oneCell'=true:=fun u hu=>by
  obtain⟨x,_,rfl⟩:=List.mem_map.1 hu
  rfl
 have HN:=Lib.hid hnews
 have HO:=Lib.hid hone
 have HOW:=Lib.hid hown
 clear hnews hone hown hb6 hG6
 subst hw6
 go_upto_region 2 with (at_builtin;refine wpList_append_lies _ (by rfl) _ _ _ (by rfl) gl 40 i0 _ 1 8 Tryz.underlying32 hi0 hz0 hz1 hz2 rfl (by omega) _ 0 _ (by rfl) HOW.out ad ll.length d (ll.map u64V) (by rfl) (by simp) HN.out HO.out (by omega) (by omega) (by omega) hbs _ rfl ?_;intro g8 cap8 w8 hown8 hgrow8 hat8 hlt8)
 have hsz6:(w5.alloc (Obj.cells #[] 40)).heap.size=w5.heap.size+1:=sizeA _ _
 have hb8:Below w5.heap.size w5 w8:=(Kit.bl1:Below w5.heap.size w5 (w5.alloc (Obj.cells #[] 40))).grown hgrow8 (by omega) (fun k hk=>by simp[Value.ownBlock]at hk;omega)
 rw[Nat.zero_add,List.nil_append]at hown8
 have hg8:w5.heap.size≤g8:=by
  rcases hat8 with h | h
  ·simp[Value.ownBlock]at h;omega
  ·omega
 obtain⟨g9,cap9,hv9,_,_,hcap9,hfz9,hc9⟩:=OwnR.own_cells hown8 (by omega)
 obtain⟨rfl,rfl⟩:g8=g9∧cap8=cap9:=by injection hv9 with h1 _ h2;injection h1 with h1;injection h1 with h1;exact⟨h1,h2⟩
 have hs9:=OwnR.own_set hown8 (j:=dst) (by simpa using hd) (.int .u64 (v:Int))
 have e9:(ll.map u64V).set dst (.int .u64 (v:Int))=(ll.set dst v).map u64V:=by rw[List.map_set];rfl
 rw[e9]at hs9
 have HS9:=Lib.hid hs9
 have hw9:w8.cell? ⟨g8,dst,none⟩=some (.int .u64 (ll[dst]:Nat)):=hc9 dst _ (by simp[hd,u64V])
 have hf9:=hfz9 dst
 have d1:(dst:Int)<(ll.length:Int):=by omega
 have d2:(0:Int)≤(dst:Int):=by omega
 have hA8:=hA5.below' hb8
 have hB8:=hB5.below' hb8
 clear hv9 hc9 hfz9 hs9 e9 hown8 hgrow8 hat8 HN HOW HO c0 hbs
 go_upto_region 3 with fail
 obtain⟨w9,hw9'⟩:∃y,y=w8.setCell ⟨g8,dst,none⟩ (.int .u64 (v:Int)):=⟨_,rfl⟩
 have hA9:Blk w9 gl 82 #[.int .i64 lc,.slice A' n c',.int .i64 k,.slice (some ad) ll.length d]:=by rw[hw9'];exact hA8.farN (by omega) _
 have hB9:Blk w9 (gl+1) 82 #[.int .i64 0,.slice none 0 0,.int .i64 0,.slice none 0 0]:=by rw[hw9'];exact hB8.farN (by omega) _
 have hb9:Below w5.heap.size w5 w9:=by rw[hw9'];exact hb8.setCell (p:=⟨g8,dst,none⟩) hg8 _
 have hl9:g8<w9.heap.size:=by rw[hw9'];simp[World.setCell];exact hlt8
 rw[←hw9']at HS9 ⊢
 clear hw9' hA8 hB8 hw9 hf9 hb8
 have k0:w9.cell? ⟨gl,0,none⟩=some (.int .i64 lc):=hA9.cell 0
 have k1:w9.cell? ⟨gl,1,none⟩=some (.slice A' n c'):=hA9.cell 1
 have k2:w9.cell? ⟨gl,2,none⟩=some (.int .i64 k):=hA9.cell 2
 have kf:=fun i=>hB9.frozen i
 obtain⟨kb0,kb1,kb2,kb3⟩:=Kit.cells4 hB9
 go_wp2_with fail
 obtain⟨wf,hwf⟩:∃y,y=(((w9.setCell ⟨gl+1,0,none⟩ (.int .i64 lc)).setCell ⟨gl+1,1,none⟩ (.slice A' n c')).setCell ⟨gl+1,2,none⟩ (.int .i64 ((k:Int)+1))).setCell ⟨gl+1,3,none⟩ (.slice (some ⟨g8,0,none⟩) ll.length cap8):=⟨_,rfl⟩
 have hBf:Blk wf (gl+1) 82 #[.int .i64 lc,.slice A' n c',.int .i64 ((k:Int)+1),.slice (some ⟨g8,0,none⟩) ll.length cap8]:=by rw[hwf];exact(((hB9.set 0 _).set 1 _).set 2 _).set 3 _
 have hbf:Below gl w wf:=by
  rw[hwf]
  have h1:Below gl w w9:=hb5.trans (hb9.mono (by omega))
  exact(((h1.setCell (p:=⟨gl+1,0,none⟩) (by simp) _).setCell (p:=⟨gl+1,1,none⟩) (by simp) _).setCell (p:=⟨gl+1,2,none⟩) (by simp) _).setCell (p:=⟨gl+1,3,none⟩) (by simp) _
 have hSf:=OwnR.own_stays (w':=wf) HS9.out (fun q hq=>by
  obtain rfl:g8=q:=by simpa [Value.ownBlock]using hq
  rw[hwf]
  iterate 4 rw[Below.heap_setCell _ _ _ _ (by show g8≠gl+1;omega)])
 rw[←hwf]
 clear hwf
 obtain⟨e0,e1,e2,e3⟩:=Kit.cells4 hBf
 refine bodyPost_ret (v:=.agg #[.int .i64 lc,.slice A' n c',.int .i64 ((k:Int)+1),.slice (some ⟨g8,0,none⟩) ll.length cap8]) (by simp[results,Tryz.results128,go_sem,e0,e1,e2,e3]) rfl ⟨g8,cap8,rfl,?_,by rw[hgl];omega,by rw[hgl];exact hbf⟩
 have hle:(ll.set dst v).length=ll.length:=List.length_set
 rw[←hle]at hSf ⊢
 exact OwnR.own_mono hSf (Nat.zero_le _)
end Go.Proofs.YtmjilfamjlnigaaGreat.RefW
