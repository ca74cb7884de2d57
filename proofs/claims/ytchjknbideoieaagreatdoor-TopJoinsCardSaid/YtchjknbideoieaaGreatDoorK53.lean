/- What is proved here: The card TopJoins of tantalustop: for every input the law returns true, and its arguments read as they did. Condition: what the listed variables hold when the call begins, tied to the program's text. -/
import Derived.Test.YtchjknbideoieaaGreatDoorK34
import Derived.Test.YtchjknbideoieaaGreatDoorK24
import Derived.Test.YtchjknbideoieaaGreatDoorK52
import Derived.Test.YtchjknbideoieaaGreatDoorCards
import Derived.SevenTiedAt
import Derived.Stop.Joined
namespace Go.Proofs.YtchjknbideoieaaGreatDoor.topJoins
set_option maxRecDepth 100000
set_option maxHeartbeats 8000000
open Go.ChangeShapes Go.WideShapes Go.ChangeAt Go.RowKit Go.Deep
abbrev laid:List (String × DataW Unit):=[("tantalus/sha.constants",Rows.laid_tantalus_sha_constants)]
theorem contract (H:Type) (enc:TypeId × Value→H) (W:World) (base:Nat) (args:Array Value) (ds gs:List (DataW H)) (before:List MemPlace)
  (hval:∀(j:Nat) t v,Tryz.f4.params[j]? = some t→args[j]? = some v→Value.okWide Tryz.prog W .any base t v)
  (hW:DataW.Whole enc Tryz.prog Tryz.f4.params.toList Rows.topJoinsSpec.vars false W args.toList ds gs before)
  (hsz:(DataW.weightsEach Tryz.prog (Tryz.f4.params.toList++Rows.topJoinsSpec.plain.varTypes Tryz.prog) (ds++gs)).all (·≤reachBytes)=true) (hL:laidMetH Tryz.prog laid W) :
  Calls Tryz.prog 4 args W fun e W'=>∃v,e=.returned v∧Rows.topJoinsSpec.post enc Tryz.prog Tryz.f4 false true false false W args v W':=by
 have hW':=hW
 obtain⟨p,q,hA0,hV,rfl,hfz,hnd⟩:=hW
 have hA:DataW.TrodAll enc Tryz.prog W 0 (fun _=>true) true Tryz.f4.params.toList args.toList ds p:=hA0
 rw[Tryz.params4] at hA hval hsz
 obtain⟨v0,vs0,d0,ds0,p0,q0,hargs,rfl,rfl,h0,r0⟩:=trodAll_cons hA
 obtain⟨v1,vs1,d1,ds1,p1,q1,rfl,rfl,rfl,h1,r1⟩:=trodAll_cons r0
 obtain⟨v2,vs2,d2,ds2,p2,q2,rfl,rfl,rfl,h2,r2⟩:=trodAll_cons r1
 obtain⟨v3,vs3,d3,ds3,p3,q3,rfl,rfl,rfl,h3,r3⟩:=trodAll_cons r2
 obtain⟨rfl,rfl,rfl⟩:=trodAll_nil r3
 obtain rfl:args=#[v0,v1,v2,v3]:=by cases args;simp_all
 obtain⟨rfl,rfl⟩:=trodVars_none hV
 obtain⟨a,ha,oka,ea⟩:=arg_ents (hval 0 _ _ rfl rfl) h0
 obtain⟨b,hb,okb,eb⟩:=arg_ents (hval 1 _ _ rfl rfl) h1
 obtain⟨ms,hms,okms,ems⟩:=arg_nums (hval 2 _ _ rfl rfl) h2
 obtain⟨n,rfl⟩:=arg_u8 Tryz.underlying5 (hval 3 _ _ rfl rfl) h3
 obtain⟨hk1,h1k⟩:=ktabs1 hL
 have hza:=sized_len hsz (j:=0) rfl rfl Tryz.underlying22 ea
 have hzb:=sized_len hsz (j:=1) rfl rfl Tryz.underlying22 eb
 have hby:Tryz.prog.bytesOf 29=48:=by kernel_rfl
 rw[hby] at hza hzb
 refine (topJoins_any _ _ _ a b ms n W ha hb hms (by omega) (by omega) oka okb hk1 h1k).mono fun e W' ⟨he,hb⟩=>?_
 subst he
 exact⟨_,rfl,law_post laidOut (by rw[Tryz.params4];decide +kernel) (by kernel_rfl) Tryz.underlying4 rfl rfl hW' hb⟩
theorem lifted (os:Os) (started:os.Started) (H:Type) (enc:TypeId × Value→H) :
  ReturnsInHanded {} Tryz.checked os 4 .any (fun w args=>(Rows.topJoinsSpec.pre enc Tryz.prog Tryz.f4 [] false w args∧laidMetH Tryz.prog laid w)∧sizedMet enc Tryz.prog Tryz.f4 (OpenSpec.ofChange Rows.topJoinsSpec) false w args)
   (Rows.topJoinsSpec.post enc Tryz.prog Tryz.f4 false true false false):=by
 refine returnsInHanded_of_change_and (C:=Tryz.checked) (X:=fun w _=>laidMetH Tryz.prog laid w) (fun _ _ _ hh h=>h.of_heap hh) own started (by kernel_rfl) Tryz.func4
  (ChangeSpec.witness_shaped (enc:=enc) (C:=Tryz.checked) (os:=os) (X:=fun w _=>laidMetH Tryz.prog laid w) false (World.doorLaid Tryz.prog 19 os) #[.slice none 0 0,.slice none 0 0,.slice none 0 0,.int .u8 0] 8 rfl (World.shaped_of_RefB (by kernel_rfl) (by kernel_rfl)) (by kernel_rfl) (by kernel_rfl) (by kernel_rfl) (door1 os _)) ?_
 intro W base args ds gs before hval hW _ hsz hL _
 exact contract H enc W base args ds gs before hval hW hsz hL
theorem said:Rows.TopJoinsSaid :=
 OpenClaim.holds_of_wide 4 Tryz.f4 rfl rfl rfl rfl rfl rfl rfl ⟨rfl,rfl,rfl,rfl,rfl⟩ rfl rfl rfl rfl rfl (by kernel_rfl) Tryz.func4 (by kernel_rfl)
  (of_decide_eq_true (by kernel_rfl)) (by unfold Func.isWrapper;first|(rw[if_pos (by decide +kernel)];kernel_rfl)|(rw[if_neg (by decide +kernel)];exact⟨rfl,rfl⟩))
  (fun os started H enc _=>lifted os started H enc)
theorem proved:Rows.TopJoinsCardSaid :=
 Claim7.holds_tied_plain_at .later [] [.data] true _ true said (fun _ h=>by cases h) (by kernel_rfl) (fun _ h=>by cases h) topJoins_row_tie rfl ⟨rfl,rfl⟩ (by kernel_rfl) rfl
  (fun f fn hf hfn=>by
   obtain rfl:f=4:=Option.some.inj (hf.symm.trans (by kernel_rfl))
   obtain rfl:fn=Tryz.f4:=Option.some.inj (hfn.symm.trans Tryz.func4)
   refine⟨by kernel_rfl,fun j t ht=>?_⟩
   have hm:t∈Tryz.f4.params.toList:=Array.mem_toList_iff.2 (Array.mem_of_getElem? ht)
   have hall:(Tryz.f4.params.toList.all fun u=>!Tryz.prog.wantsStandIn u)=true:=by kernel_rfl
   exact (show Tryz.prog.wantsStandIn t=false by simpa using List.all_eq_true.1 hall t hm))
  (by kernel_rfl)
end Go.Proofs.YtchjknbideoieaaGreatDoor.topJoins
