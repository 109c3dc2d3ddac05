import Derived.Test.YtomadjefdghliaaGreatU2
import Derived.Test.YtomadjefdghliaaGreatU9
import Derived.Test.YtomadjefdghliaaGreatRows
namespace Go.Proofs.YtomadjefdghliaaGreat
open Go Go.RX
instance : Mixed Tryz.prog := ⟨by kernel_rfl⟩
instance : USize Tryz.prog 3 1 := ⟨Tryz.sizeOf3⟩
instance : UOne Tryz.prog 3 := ⟨Tryz.isAgg3⟩
instance : UInt Tryz.prog 3 .i64 := ⟨Tryz.underlying3⟩
instance : UZero Tryz.prog 3 (.int .i64 0) := ⟨Tryz.zeroValue3⟩
instance : UElem Tryz.prog 3 (.int .i64 0) 1 8 := ⟨by kernel_rfl⟩
instance : USize Tryz.prog 4 1 := ⟨Tryz.sizeOf4⟩
instance : UOne Tryz.prog 4 := ⟨Tryz.isAgg4⟩
instance : UBool Tryz.prog 4 := ⟨Tryz.underlying4⟩
instance : UElem Tryz.prog 4 (.bool false) 1 1 := ⟨by kernel_rfl⟩
instance : UOne Tryz.prog 22 := ⟨Tryz.isAgg22⟩
instance : USlice Tryz.prog 22 45 := ⟨Tryz.underlying22⟩
instance : USize Tryz.prog 23 1 := ⟨Tryz.sizeOf23⟩
instance : UOne Tryz.prog 23 := ⟨Tryz.isAgg23⟩
instance : USlice Tryz.prog 23 3 := ⟨Tryz.underlying23⟩
instance : UElem Tryz.prog 23 (.slice none 0 0) 1 24 := ⟨by kernel_rfl⟩
instance : UOne Tryz.prog 24 := ⟨Tryz.isAgg24⟩
instance : USlice Tryz.prog 24 47 := ⟨Tryz.underlying24⟩
instance : USize Tryz.prog 26 4 := ⟨Tryz.sizeOf26⟩
instance : UAgg Tryz.prog 26 := ⟨Tryz.isAgg26⟩
instance : UField Tryz.prog 26 0 0 := ⟨field_of Tryz.underlying26 rfl Tryz.sizeOf22 rfl rfl⟩
instance : UField Tryz.prog 26 1 1 := ⟨field_of Tryz.underlying26 rfl Tryz.sizeOf23 rfl rfl⟩
instance : UField Tryz.prog 26 2 2 := ⟨field_of Tryz.underlying26 rfl Tryz.sizeOf24 rfl rfl⟩
instance : UField Tryz.prog 26 3 3 := ⟨field_of Tryz.underlying26 rfl Tryz.sizeOf3 rfl rfl⟩
instance : USize Tryz.prog 30 4 := ⟨Tryz.sizeOf30⟩
instance : UAgg Tryz.prog 30 := ⟨Tryz.isAgg30⟩
instance : UField Tryz.prog 30 0 0 := ⟨field_of Tryz.underlying30 rfl Tryz.sizeOf3 rfl rfl⟩
instance : UField Tryz.prog 30 1 1 := ⟨field_of Tryz.underlying30 rfl Tryz.sizeOf3 rfl rfl⟩
instance : UField Tryz.prog 30 2 2 := ⟨field_of Tryz.underlying30 rfl Tryz.sizeOf23 rfl rfl⟩
instance : UField Tryz.prog 30 3 3 := ⟨field_of Tryz.underlying30 rfl Tryz.sizeOf3 rfl rfl⟩
instance : USize Tryz.prog 32 10 := ⟨Tryz.sizeOf32⟩
instance : UAgg Tryz.prog 32 := ⟨Tryz.isAgg32⟩
instance : UField Tryz.prog 32 0 0 := ⟨field_of Tryz.underlying32 rfl Tryz.sizeOf30 rfl rfl⟩
instance : UField Tryz.prog 32 1 4 := ⟨field_of Tryz.underlying32 rfl Tryz.sizeOf3 rfl rfl⟩
instance : UField Tryz.prog 32 2 5 := ⟨field_of Tryz.underlying32 rfl Tryz.sizeOf3 rfl rfl⟩
instance : UField Tryz.prog 32 3 6 := ⟨field_of Tryz.underlying32 rfl Tryz.sizeOf3 rfl rfl⟩
instance : UField Tryz.prog 32 4 7 := ⟨field_of Tryz.underlying32 rfl Tryz.sizeOf3 rfl rfl⟩
instance : UField Tryz.prog 32 5 8 := ⟨field_of Tryz.underlying32 rfl Tryz.sizeOf3 rfl rfl⟩
instance : UField Tryz.prog 32 6 9 := ⟨field_of Tryz.underlying32 rfl Tryz.sizeOf3 rfl rfl⟩
instance : USize Tryz.prog 39 6 := ⟨Tryz.sizeOf39⟩
instance : UAgg Tryz.prog 39 := ⟨Tryz.isAgg39⟩
instance : UField Tryz.prog 39 0 0 := ⟨field_of Tryz.underlying39 rfl Tryz.sizeOf3 rfl rfl⟩
instance : UField Tryz.prog 39 1 1 := ⟨field_of Tryz.underlying39 rfl Tryz.sizeOf3 rfl rfl⟩
instance : UField Tryz.prog 39 2 2 := ⟨field_of Tryz.underlying39 rfl Tryz.sizeOf3 rfl rfl⟩
instance : UField Tryz.prog 39 3 3 := ⟨field_of Tryz.underlying39 rfl Tryz.sizeOf3 rfl rfl⟩
instance : UField Tryz.prog 39 4 4 := ⟨field_of Tryz.underlying39 rfl Tryz.sizeOf3 rfl rfl⟩
instance : UField Tryz.prog 39 5 5 := ⟨field_of Tryz.underlying39 rfl Tryz.sizeOf23 rfl rfl⟩
instance : UOne Tryz.prog 40 := ⟨Tryz.isAgg40⟩
instance : USlice Tryz.prog 40 39 := ⟨Tryz.underlying40⟩
instance : USize Tryz.prog 45 2 := ⟨Tryz.sizeOf45⟩
instance : UAgg Tryz.prog 45 := ⟨Tryz.isAgg45⟩
instance : UField Tryz.prog 45 0 0 := ⟨field_of Tryz.underlying45 rfl Tryz.sizeOf4 rfl rfl⟩
instance : UField Tryz.prog 45 1 1 := ⟨field_of Tryz.underlying45 rfl Tryz.sizeOf23 rfl rfl⟩
instance : USize Tryz.prog 47 6 := ⟨Tryz.sizeOf47⟩
instance : UAgg Tryz.prog 47 := ⟨Tryz.isAgg47⟩
instance : UField Tryz.prog 47 0 0 := ⟨field_of Tryz.underlying47 rfl Tryz.sizeOf3 rfl rfl⟩
instance : UField Tryz.prog 47 1 1 := ⟨field_of Tryz.underlying47 rfl Tryz.sizeOf23 rfl rfl⟩
instance : UField Tryz.prog 47 2 2 := ⟨field_of Tryz.underlying47 rfl Tryz.sizeOf3 rfl rfl⟩
instance : UField Tryz.prog 47 3 3 := ⟨field_of Tryz.underlying47 rfl Tryz.sizeOf23 rfl rfl⟩
instance : UField Tryz.prog 47 4 4 := ⟨field_of Tryz.underlying47 rfl Tryz.sizeOf23 rfl rfl⟩
instance : UField Tryz.prog 47 5 5 := ⟨field_of Tryz.underlying47 rfl Tryz.sizeOf40 rfl rfl⟩
instance : UOne Tryz.prog 49 := ⟨Tryz.isAgg49⟩
instance : UOne Tryz.prog 51 := ⟨Tryz.isAgg51⟩
instance : UPtr Tryz.prog 51 86 := ⟨Tryz.underlying51⟩
instance : UOne Tryz.prog 53 := ⟨Tryz.isAgg53⟩
instance : UMap Tryz.prog 53 3 87 := ⟨Tryz.underlying53⟩
instance : USize Tryz.prog 55 1 := ⟨Tryz.sizeOf55⟩
instance : UOne Tryz.prog 55 := ⟨Tryz.isAgg55⟩
instance : USlice Tryz.prog 55 60 := ⟨Tryz.underlying55⟩
instance : UField Tryz.prog 57 0 0 := ⟨field_of Tryz.underlying57 rfl Tryz.sizeOf26 rfl rfl⟩
instance : UField Tryz.prog 57 1 4 := ⟨field_of Tryz.underlying57 rfl Tryz.sizeOf23 rfl rfl⟩
instance : UField Tryz.prog 57 2 5 := ⟨field_of Tryz.underlying57 rfl Tryz.sizeOf51 rfl rfl⟩
instance : UField Tryz.prog 57 3 6 := ⟨field_of Tryz.underlying57 rfl Tryz.sizeOf3 rfl rfl⟩
instance : UField Tryz.prog 57 4 7 := ⟨field_of Tryz.underlying57 rfl Tryz.sizeOf23 rfl rfl⟩
instance : UField Tryz.prog 57 5 8 := ⟨field_of Tryz.underlying57 rfl Tryz.sizeOf23 rfl rfl⟩
instance : UField Tryz.prog 57 6 9 := ⟨field_of Tryz.underlying57 rfl Tryz.sizeOf55 rfl rfl⟩
instance : UField Tryz.prog 57 7 10 := ⟨field_of Tryz.underlying57 rfl Tryz.sizeOf3 rfl rfl⟩
instance : UField Tryz.prog 57 8 11 := ⟨field_of Tryz.underlying57 rfl Tryz.sizeOf53 rfl rfl⟩
instance : UField Tryz.prog 57 9 12 := ⟨field_of Tryz.underlying57 rfl Tryz.sizeOf32 rfl rfl⟩
instance : USize Tryz.prog 60 1 := ⟨Tryz.sizeOf60⟩
instance : UOne Tryz.prog 60 := ⟨Tryz.isAgg60⟩
instance : UElem Tryz.prog 60 (.pointer none) 1 8 := ⟨by kernel_rfl⟩
instance : USize Tryz.prog 68 1 := ⟨Tryz.sizeOf68⟩
instance : UOne Tryz.prog 68 := ⟨Tryz.isAgg68⟩
instance : USlice Tryz.prog 68 4 := ⟨Tryz.underlying68⟩
instance : USize Tryz.prog 69 1 := ⟨Tryz.sizeOf69⟩
instance : UOne Tryz.prog 69 := ⟨Tryz.isAgg69⟩
instance : USlice Tryz.prog 69 139 := ⟨Tryz.underlying69⟩
instance : UField Tryz.prog 71 0 0 := ⟨field_of Tryz.underlying71 rfl Tryz.sizeOf68 rfl rfl⟩
instance : UField Tryz.prog 71 1 1 := ⟨field_of Tryz.underlying71 rfl Tryz.sizeOf69 rfl rfl⟩
instance : UField Tryz.prog 71 2 2 := ⟨field_of Tryz.underlying71 rfl Tryz.sizeOf3 rfl rfl⟩
instance : UField Tryz.prog 71 3 3 := ⟨field_of Tryz.underlying71 rfl Tryz.sizeOf3 rfl rfl⟩
instance : USize Tryz.prog 72 1 := ⟨Tryz.sizeOf72⟩
instance : UOne Tryz.prog 72 := ⟨Tryz.isAgg72⟩
instance : USlice Tryz.prog 72 98 := ⟨Tryz.underlying72⟩
instance : UField Tryz.prog 74 0 0 := ⟨field_of Tryz.underlying74 rfl Tryz.sizeOf26 rfl rfl⟩
instance : UField Tryz.prog 74 1 4 := ⟨field_of Tryz.underlying74 rfl Tryz.sizeOf23 rfl rfl⟩
instance : UField Tryz.prog 74 2 5 := ⟨field_of Tryz.underlying74 rfl Tryz.sizeOf23 rfl rfl⟩
instance : UField Tryz.prog 74 3 6 := ⟨field_of Tryz.underlying74 rfl Tryz.sizeOf71 rfl rfl⟩
instance : UField Tryz.prog 74 4 10 := ⟨field_of Tryz.underlying74 rfl Tryz.sizeOf23 rfl rfl⟩
instance : UField Tryz.prog 74 5 11 := ⟨field_of Tryz.underlying74 rfl Tryz.sizeOf72 rfl rfl⟩
instance : UField Tryz.prog 74 6 12 := ⟨field_of Tryz.underlying74 rfl Tryz.sizeOf30 rfl rfl⟩
instance : UField Tryz.prog 74 7 16 := ⟨field_of Tryz.underlying74 rfl Tryz.sizeOf3 rfl rfl⟩
instance : USlice Tryz.prog 81 23 := ⟨Tryz.underlying81⟩
instance : USize Tryz.prog 83 1 := ⟨Tryz.sizeOf83⟩
instance : UOne Tryz.prog 83 := ⟨Tryz.isAgg83⟩
instance : USlice Tryz.prog 83 90 := ⟨Tryz.underlying83⟩
instance : USize Tryz.prog 84 1 := ⟨Tryz.sizeOf84⟩
instance : UOne Tryz.prog 84 := ⟨Tryz.isAgg84⟩
instance : USlice Tryz.prog 84 148 := ⟨Tryz.underlying84⟩
instance : UField Tryz.prog 86 0 0 := ⟨field_of Tryz.underlying86 rfl Tryz.sizeOf83 rfl rfl⟩
instance : UField Tryz.prog 86 1 1 := ⟨field_of Tryz.underlying86 rfl Tryz.sizeOf84 rfl rfl⟩
instance : UField Tryz.prog 86 2 2 := ⟨field_of Tryz.underlying86 rfl Tryz.sizeOf3 rfl rfl⟩
instance : UField Tryz.prog 86 3 3 := ⟨field_of Tryz.underlying86 rfl Tryz.sizeOf3 rfl rfl⟩
instance : UField Tryz.prog 86 4 4 := ⟨field_of Tryz.underlying86 rfl Tryz.sizeOf3 rfl rfl⟩
instance : UField Tryz.prog 86 5 5 := ⟨field_of Tryz.underlying86 rfl Tryz.sizeOf3 rfl rfl⟩
instance : USize Tryz.prog 90 2 := ⟨Tryz.sizeOf90⟩
instance : UElem Tryz.prog 90 (.agg #[(.bool false), (.int .i64 0)]) 2 16 := ⟨by kernel_rfl⟩
instance : UField Tryz.prog 90 0 0 := ⟨field_of Tryz.underlying90 rfl Tryz.sizeOf4 rfl rfl⟩
instance : UField Tryz.prog 90 1 1 := ⟨field_of Tryz.underlying90 rfl Tryz.sizeOf3 rfl rfl⟩
instance : UOne Tryz.prog 91 := ⟨Tryz.isAgg91⟩
instance : UMap Tryz.prog 91 3 3 := ⟨Tryz.underlying91⟩
instance : UField Tryz.prog 93 0 0 := ⟨field_of Tryz.underlying93 rfl Tryz.sizeOf3 rfl rfl⟩
instance : UField Tryz.prog 93 1 1 := ⟨field_of Tryz.underlying93 rfl Tryz.sizeOf3 rfl rfl⟩
instance : UField Tryz.prog 93 2 2 := ⟨field_of Tryz.underlying93 rfl Tryz.sizeOf23 rfl rfl⟩
instance : UField Tryz.prog 93 3 3 := ⟨field_of Tryz.underlying93 rfl Tryz.sizeOf3 rfl rfl⟩
instance : UField Tryz.prog 93 4 4 := ⟨field_of Tryz.underlying93 rfl Tryz.sizeOf91 rfl rfl⟩
instance : USize Tryz.prog 98 5 := ⟨Tryz.sizeOf98⟩
instance : UElem Tryz.prog 98 (.agg #[(.int .i64 0), (.int .i64 0), (.int .i64 0), (.slice none 0 0), (.slice none 0 0)]) 5 72 := ⟨by kernel_rfl⟩
instance : UField Tryz.prog 98 0 0 := ⟨field_of Tryz.underlying98 rfl Tryz.sizeOf3 rfl rfl⟩
instance : UField Tryz.prog 98 1 1 := ⟨field_of Tryz.underlying98 rfl Tryz.sizeOf3 rfl rfl⟩
instance : UField Tryz.prog 98 2 2 := ⟨field_of Tryz.underlying98 rfl Tryz.sizeOf3 rfl rfl⟩
instance : UField Tryz.prog 98 3 3 := ⟨field_of Tryz.underlying98 rfl Tryz.sizeOf23 rfl rfl⟩
instance : UField Tryz.prog 98 4 4 := ⟨field_of Tryz.underlying98 rfl Tryz.sizeOf23 rfl rfl⟩
instance : USize Tryz.prog 131 16 := ⟨Tryz.sizeOf131⟩
instance : UAgg Tryz.prog 131 := ⟨Tryz.isAgg131⟩
instance : UField Tryz.prog 131 0 0 := ⟨field_of Tryz.underlying131 rfl Tryz.sizeOf26 rfl rfl⟩
instance : UField Tryz.prog 131 1 4 := ⟨field_of Tryz.underlying131 rfl Tryz.sizeOf47 rfl rfl⟩
instance : UField Tryz.prog 131 2 10 := ⟨field_of Tryz.underlying131 rfl Tryz.sizeOf39 rfl rfl⟩
instance : USize Tryz.prog 139 2 := ⟨Tryz.sizeOf139⟩
instance : UElem Tryz.prog 139 (.agg #[(.int .i64 0), (.slice none 0 0)]) 2 32 := ⟨by kernel_rfl⟩
instance : UField Tryz.prog 139 0 0 := ⟨field_of Tryz.underlying139 rfl Tryz.sizeOf3 rfl rfl⟩
instance : UField Tryz.prog 139 1 1 := ⟨field_of Tryz.underlying139 rfl Tryz.sizeOf23 rfl rfl⟩
instance : USize Tryz.prog 148 2 := ⟨Tryz.sizeOf148⟩
instance : UAgg Tryz.prog 148 := ⟨Tryz.isAgg148⟩
instance : UElem Tryz.prog 148 (.agg #[(.int .i64 0), (.slice none 0 0)]) 2 32 := ⟨by kernel_rfl⟩
instance : UField Tryz.prog 148 0 0 := ⟨field_of Tryz.underlying148 rfl Tryz.sizeOf3 rfl rfl⟩
instance : UField Tryz.prog 148 1 1 := ⟨field_of Tryz.underlying148 rfl Tryz.sizeOf23 rfl rfl⟩
instance : UFunc Tryz.prog 7 := ⟨Tryz.call7⟩
instance : UFunc Tryz.prog 8 := ⟨Tryz.call8⟩
instance : UFunc Tryz.prog 9 := ⟨Tryz.call9⟩
instance : UFunc Tryz.prog 10 := ⟨Tryz.call10⟩
instance : UFunc Tryz.prog 11 := ⟨Tryz.call11⟩
instance : UFunc Tryz.prog 13 := ⟨Tryz.call13⟩
instance : UFunc Tryz.prog 14 := ⟨Tryz.call14⟩
instance : UFunc Tryz.prog 15 := ⟨Tryz.call15⟩
instance : UFunc Tryz.prog 16 := ⟨Tryz.call16⟩
instance : UFunc Tryz.prog 17 := ⟨Tryz.call17⟩
instance : UFunc Tryz.prog 18 := ⟨Tryz.call18⟩
instance : UFunc Tryz.prog 19 := ⟨Tryz.call19⟩
instance : UFunc Tryz.prog 20 := ⟨Tryz.call20⟩
instance : UFunc Tryz.prog 21 := ⟨Tryz.call21⟩
instance : UFunc Tryz.prog 22 := ⟨Tryz.call22⟩
instance : UFunc Tryz.prog 23 := ⟨Tryz.call23⟩
instance : UFunc Tryz.prog 24 := ⟨Tryz.call24⟩
instance : UFunc Tryz.prog 25 := ⟨Tryz.call25⟩
instance : UFunc Tryz.prog 26 := ⟨Tryz.call26⟩
instance : UFunc Tryz.prog 27 := ⟨Tryz.call27⟩
instance : UFunc Tryz.prog 28 := ⟨Tryz.call28⟩
instance : UFunc Tryz.prog 29 := ⟨Tryz.call29⟩
instance : UFunc Tryz.prog 30 := ⟨Tryz.call30⟩
instance : UFunc Tryz.prog 31 := ⟨Tryz.call31⟩
instance : UFunc Tryz.prog 32 := ⟨Tryz.call32⟩
instance : UFunc Tryz.prog 33 := ⟨Tryz.call33⟩
instance : UFunc Tryz.prog 34 := ⟨Tryz.call34⟩
instance : UFunc Tryz.prog 35 := ⟨Tryz.call35⟩
instance : UFunc Tryz.prog 36 := ⟨Tryz.call36⟩
instance : UFunc Tryz.prog 37 := ⟨Tryz.call37⟩
instance : UFunc Tryz.prog 38 := ⟨Tryz.call38⟩
instance : UFunc Tryz.prog 39 := ⟨Tryz.call39⟩
instance : UFunc Tryz.prog 40 := ⟨Tryz.call40⟩
instance : UFunc Tryz.prog 41 := ⟨Tryz.call41⟩
instance : UFunc Tryz.prog 42 := ⟨Tryz.call42⟩
instance : UFunc Tryz.prog 43 := ⟨Tryz.call43⟩
instance : UFunc Tryz.prog 44 := ⟨Tryz.call44⟩
instance : UFunc Tryz.prog 45 := ⟨Tryz.call45⟩
instance : UFunc Tryz.prog 46 := ⟨Tryz.call46⟩
instance : UFunc Tryz.prog 47 := ⟨Tryz.call47⟩
instance : UFunc Tryz.prog 48 := ⟨Tryz.call48⟩
instance : UFunc Tryz.prog 49 := ⟨Tryz.call49⟩
instance : UFunc Tryz.prog 50 := ⟨Tryz.call50⟩
instance : UFunc Tryz.prog 51 := ⟨Tryz.call51⟩
instance : UFunc Tryz.prog 52 := ⟨Tryz.call52⟩
instance : UFunc Tryz.prog 53 := ⟨Tryz.call53⟩
instance : UFunc Tryz.prog 54 := ⟨Tryz.call54⟩
instance : UFunc Tryz.prog 55 := ⟨Tryz.call55⟩
instance : UFunc Tryz.prog 56 := ⟨Tryz.call56⟩
instance : UFunc Tryz.prog 57 := ⟨Tryz.call57⟩
instance : UFunc Tryz.prog 58 := ⟨Tryz.call58⟩
instance : UFunc Tryz.prog 59 := ⟨Tryz.call59⟩
instance : UFunc Tryz.prog 60 := ⟨Tryz.call60⟩
instance : UFunc Tryz.prog 61 := ⟨Tryz.call61⟩
instance : UFunc Tryz.prog 62 := ⟨Tryz.call62⟩
instance : UFunc Tryz.prog 63 := ⟨Tryz.call63⟩
instance : UFunc Tryz.prog 64 := ⟨Tryz.call64⟩
instance : UFunc Tryz.prog 65 := ⟨Tryz.call65⟩
instance : UFunc Tryz.prog 66 := ⟨Tryz.call66⟩
instance : UFunc Tryz.prog 67 := ⟨Tryz.call67⟩
instance : UFunc Tryz.prog 68 := ⟨Tryz.call68⟩
instance : UFunc Tryz.prog 69 := ⟨Tryz.call69⟩
instance : UFunc Tryz.prog 70 := ⟨Tryz.call70⟩
instance : UFunc Tryz.prog 71 := ⟨Tryz.call71⟩
instance : UFunc Tryz.prog 72 := ⟨Tryz.call72⟩
instance : UFunc Tryz.prog 73 := ⟨Tryz.call73⟩
instance : UFunc Tryz.prog 74 := ⟨Tryz.call74⟩
instance : UFunc Tryz.prog 75 := ⟨Tryz.call75⟩
instance : UFunc Tryz.prog 76 := ⟨Tryz.call76⟩
instance : UFunc Tryz.prog 77 := ⟨Tryz.call77⟩
instance : UFunc Tryz.prog 78 := ⟨Tryz.call78⟩
instance : UFunc Tryz.prog 79 := ⟨Tryz.call79⟩
instance : UFunc Tryz.prog 80 := ⟨Tryz.call80⟩
instance : UFunc Tryz.prog 81 := ⟨Tryz.call81⟩
instance : UFunc Tryz.prog 82 := ⟨Tryz.call82⟩
instance : UFunc Tryz.prog 83 := ⟨Tryz.call83⟩
instance : UFunc Tryz.prog 84 := ⟨Tryz.call84⟩
instance : UFunc Tryz.prog 85 := ⟨Tryz.call85⟩
instance : UFunc Tryz.prog 86 := ⟨Tryz.call86⟩
instance : UFunc Tryz.prog 87 := ⟨Tryz.call87⟩
instance : UFunc Tryz.prog 88 := ⟨Tryz.call88⟩
instance : UFunc Tryz.prog 89 := ⟨Tryz.call89⟩
instance : UFunc Tryz.prog 90 := ⟨Tryz.call90⟩
instance : UFunc Tryz.prog 91 := ⟨Tryz.call91⟩
instance : UFunc Tryz.prog 92 := ⟨Tryz.call92⟩
instance : UFunc Tryz.prog 93 := ⟨Tryz.call93⟩
instance : UFunc Tryz.prog 94 := ⟨Tryz.call94⟩
instance : UFunc Tryz.prog 95 := ⟨Tryz.call95⟩
instance : UFunc Tryz.prog 96 := ⟨Tryz.call96⟩
instance : UFunc Tryz.prog 97 := ⟨Tryz.call97⟩
instance : UFunc Tryz.prog 98 := ⟨Tryz.call98⟩
instance : UFunc Tryz.prog 99 := ⟨Tryz.call99⟩
instance : UFunc Tryz.prog 100 := ⟨Tryz.call100⟩
instance : UFunc Tryz.prog 101 := ⟨Tryz.call101⟩
instance : UFunc Tryz.prog 102 := ⟨Tryz.call102⟩
instance : UFunc Tryz.prog 103 := ⟨Tryz.call103⟩
instance : UFunc Tryz.prog 104 := ⟨Tryz.call104⟩
instance : UFunc Tryz.prog 105 := ⟨Tryz.call105⟩
instance : UFunc Tryz.prog 106 := ⟨Tryz.call106⟩
instance : UFunc Tryz.prog 107 := ⟨Tryz.call107⟩
instance : UFunc Tryz.prog 108 := ⟨Tryz.call108⟩
instance : UFunc Tryz.prog 109 := ⟨Tryz.call109⟩
instance : UFunc Tryz.prog 110 := ⟨Tryz.call110⟩
instance : UFunc Tryz.prog 111 := ⟨Tryz.call111⟩
instance : UFunc Tryz.prog 112 := ⟨Tryz.call112⟩
instance : UFunc Tryz.prog 113 := ⟨Tryz.call113⟩
instance : UFunc Tryz.prog 114 := ⟨Tryz.call114⟩
instance : UFunc Tryz.prog 115 := ⟨Tryz.call115⟩
instance : UFunc Tryz.prog 116 := ⟨Tryz.call116⟩
instance : UFunc Tryz.prog 117 := ⟨Tryz.call117⟩
instance : UFunc Tryz.prog 118 := ⟨Tryz.call118⟩
instance : UFunc Tryz.prog 119 := ⟨Tryz.call119⟩
instance : UFunc Tryz.prog 120 := ⟨Tryz.call120⟩
instance : UFunc Tryz.prog 121 := ⟨Tryz.call121⟩
instance : UFunc Tryz.prog 122 := ⟨Tryz.call122⟩
instance : UFunc Tryz.prog 123 := ⟨Tryz.call123⟩
instance : UFunc Tryz.prog 124 := ⟨Tryz.call124⟩
instance : UFunc Tryz.prog 125 := ⟨Tryz.call125⟩
instance : UFunc Tryz.prog 126 := ⟨Tryz.call126⟩
instance : UFunc Tryz.prog 127 := ⟨Tryz.call127⟩
instance : UFunc Tryz.prog 128 := ⟨Tryz.call128⟩
instance : UFunc Tryz.prog 129 := ⟨Tryz.call129⟩
instance : UFunc Tryz.prog 130 := ⟨Tryz.call130⟩
instance : UFunc Tryz.prog 131 := ⟨Tryz.call131⟩
instance : UFunc Tryz.prog 132 := ⟨Tryz.call132⟩
instance : UFunc Tryz.prog 133 := ⟨Tryz.call133⟩
instance : UFunc Tryz.prog 134 := ⟨Tryz.call134⟩
instance : UFunc Tryz.prog 135 := ⟨Tryz.call135⟩
instance : UFunc Tryz.prog 136 := ⟨Tryz.call136⟩
instance : UFunc Tryz.prog 137 := ⟨Tryz.call137⟩
instance : UFunc Tryz.prog 138 := ⟨Tryz.call138⟩
instance : UFunc Tryz.prog 139 := ⟨Tryz.call139⟩
instance : UFunc Tryz.prog 140 := ⟨Tryz.call140⟩
instance : UFunc Tryz.prog 141 := ⟨Tryz.call141⟩
instance : UFunc Tryz.prog 142 := ⟨Tryz.call142⟩
instance : UFunc Tryz.prog 143 := ⟨Tryz.call143⟩
instance : UFunc Tryz.prog 144 := ⟨Tryz.call144⟩
instance : UFunc Tryz.prog 145 := ⟨Tryz.call145⟩
instance : UFunc Tryz.prog 146 := ⟨Tryz.call146⟩
instance : UFunc Tryz.prog 147 := ⟨Tryz.call147⟩
instance : UFunc Tryz.prog 148 := ⟨Tryz.call148⟩
instance : UFunc Tryz.prog 149 := ⟨Tryz.call149⟩
instance : UFunc Tryz.prog 150 := ⟨Tryz.call150⟩
instance : UFunc Tryz.prog 151 := ⟨Tryz.call151⟩
instance : UFunc Tryz.prog 152 := ⟨Tryz.call152⟩
instance : UFunc Tryz.prog 153 := ⟨Tryz.call153⟩
instance : UFunc Tryz.prog 154 := ⟨Tryz.call154⟩
instance : UFunc Tryz.prog 155 := ⟨Tryz.call155⟩
instance : UFunc Tryz.prog 156 := ⟨Tryz.call156⟩
instance : UFunc Tryz.prog 157 := ⟨Tryz.call157⟩
instance : UFunc Tryz.prog 158 := ⟨Tryz.call158⟩
instance : UFunc Tryz.prog 159 := ⟨Tryz.call159⟩
instance : UFunc Tryz.prog 160 := ⟨Tryz.call160⟩
instance : UFunc Tryz.prog 161 := ⟨Tryz.call161⟩
instance : UFunc Tryz.prog 162 := ⟨Tryz.call162⟩
end Go.Proofs.YtomadjefdghliaaGreat
namespace Go.Proofs.YtomadjefdghliaaGreat
open Go Go.RowKit Go.RR Go.RX Go.GX Go.Api
instance : UTy Tryz.prog 3 Ty.int 0 (.int .i64 0) := ⟨Tryz.zeroValue3, fun _ _ => num_rd⟩
instance : UTy Tryz.prog 4 Ty.bool false (.bool false) := ⟨Tryz.zeroValue4, fun _ _ => bool_rd⟩
instance : UTy Tryz.prog 23 (Ty.slice Ty.int) [] (.slice none 0 0) := ⟨Tryz.zeroValue23, fun _ _ => nils_rd⟩
instance : UTy Tryz.prog 39 tyIns ⟨0, 0, 0, 0, 0, []⟩ (.agg #[.int .i64 0, .int .i64 0, .int .i64 0, .int .i64 0, .int .i64 0, .slice none 0 0]) := ⟨Tryz.zeroValue39, fun _ _ => (co_rd (pair_rd (c1 := [_]) rfl num_rd (pair_rd (c1 := [_]) rfl num_rd (pair_rd (c1 := [_]) rfl num_rd (pair_rd (c1 := [_]) rfl num_rd (pair_rd (c1 := [_]) rfl num_rd (pair_rd (c1 := [_]) rfl nils_rd unit_rd)))))))⟩
instance : UTy Tryz.prog 45 tyLayout ⟨false, []⟩ (.agg #[.bool false, .slice none 0 0]) := ⟨Tryz.zeroValue45, fun _ _ => (co_rd (pair_rd (c1 := [_]) rfl bool_rd (pair_rd (c1 := [_]) rfl nils_rd unit_rd)))⟩
instance : UTy Tryz.prog 47 tyUnt ⟨0, [], 0, [], [], []⟩ (.agg #[.int .i64 0, .slice none 0 0, .int .i64 0, .slice none 0 0, .slice none 0 0, .slice none 0 0]) := ⟨Tryz.zeroValue47, fun _ _ => (co_rd (pair_rd (c1 := [_]) rfl num_rd (pair_rd (c1 := [_]) rfl nils_rd (pair_rd (c1 := [_]) rfl num_rd (pair_rd (c1 := [_]) rfl nils_rd (pair_rd (c1 := [_]) rfl nils_rd (pair_rd (c1 := [_]) rfl nils_rd unit_rd)))))))⟩
instance : UTy Tryz.prog 26 tyRTg ⟨[], [], [], 0⟩ (.agg #[.slice none 0 0, .slice none 0 0, .slice none 0 0, .int .i64 0]) := ⟨Tryz.zeroValue26, fun _ _ => (co_rd (pair_rd (c1 := [_]) rfl nils_rd (pair_rd (c1 := [_]) rfl nils_rd (pair_rd (c1 := [_]) rfl nils_rd (pair_rd (c1 := [_]) rfl num_rd unit_rd)))))⟩
instance : UTy Tryz.prog 32 tyRan ⟨⟨0, 0, [], 0⟩, 0, 0, 0, 0, 0, 0⟩ (.agg #[.int .i64 0, .int .i64 0, .slice none 0 0, .int .i64 0, .int .i64 0, .int .i64 0, .int .i64 0, .int .i64 0, .int .i64 0, .int .i64 0]) := ⟨Tryz.zeroValue32, fun _ _ => (co_rd (pair_rd (c1 := [_, _, _, _]) rfl (co_rd (pair_rd (c1 := [_]) rfl num_rd (pair_rd (c1 := [_]) rfl num_rd (pair_rd (c1 := [_]) rfl nils_rd (pair_rd (c1 := [_]) rfl num_rd unit_rd))))) (pair_rd (c1 := [_]) rfl num_rd (pair_rd (c1 := [_]) rfl num_rd (pair_rd (c1 := [_]) rfl num_rd (pair_rd (c1 := [_]) rfl num_rd (pair_rd (c1 := [_]) rfl num_rd (pair_rd (c1 := [_]) rfl num_rd unit_rd))))))))⟩
instance : UTy Tryz.prog 90 tyRegion ⟨false, 0⟩ (.agg #[.bool false, .int .i64 0]) := ⟨Tryz.zeroValue90, fun _ _ => (co_rd (pair_rd (c1 := [_]) rfl bool_rd (pair_rd (c1 := [_]) rfl num_rd unit_rd)))⟩
instance {ps : List Pf} {v_op v_a v_b v_c v_n v_args : Value} {x_op : Int} {x_a : Int} {x_b : Int} {x_c : Int} {x_n : Int} {x_args : List Int} [OneV v_op] [OneV v_a] [OneV v_b] [OneV v_c] [OneV v_n] [OneV v_args] [h_op : Rds ps v_op Ty.int x_op] [h_a : Rds ps v_a Ty.int x_a] [h_b : Rds ps v_b Ty.int x_b] [h_c : Rds ps v_c Ty.int x_c] [h_n : Rds ps v_n Ty.int x_n] [h_args : Rds ps v_args (Ty.slice Ty.int) x_args] : Rds ps (.agg #[v_op, v_a, v_b, v_c, v_n, v_args]) tyIns ⟨x_op, x_a, x_b, x_c, x_n, x_args⟩ := ⟨.of fun F w h => co_rd (pair_rd (c1 := [_]) rfl (rdo (h_op.r.as F w h)) (pair_rd (c1 := [_]) rfl (rdo (h_a.r.as F w h)) (pair_rd (c1 := [_]) rfl (rdo (h_b.r.as F w h)) (pair_rd (c1 := [_]) rfl (rdo (h_c.r.as F w h)) (pair_rd (c1 := [_]) rfl (rdo (h_n.r.as F w h)) (pair_rd (c1 := [_]) rfl (rdo (h_args.r.as F w h)) unit_rd))))))⟩
instance {ps : List Pf} {v_arr v_refs : Value} {x_arr : Bool} {x_refs : List Int} [OneV v_arr] [OneV v_refs] [h_arr : Rds ps v_arr Ty.bool x_arr] [h_refs : Rds ps v_refs (Ty.slice Ty.int) x_refs] : Rds ps (.agg #[v_arr, v_refs]) tyLayout ⟨x_arr, x_refs⟩ := ⟨.of fun F w h => co_rd (pair_rd (c1 := [_]) rfl (rdo (h_arr.r.as F w h)) (pair_rd (c1 := [_]) rfl (rdo (h_refs.r.as F w h)) unit_rd))⟩
instance {ps : List Pf} {v_params v_vars v_result v_takes v_owns v_ins : Value} {x_params : Int} {x_vars : List Int} {x_result : Int} {x_takes : List Int} {x_owns : List Int} {x_ins : List Go.Api.Ins} [OneV v_params] [OneV v_vars] [OneV v_result] [OneV v_takes] [OneV v_owns] [OneV v_ins] [h_params : Rds ps v_params Ty.int x_params] [h_vars : Rds ps v_vars (Ty.slice Ty.int) x_vars] [h_result : Rds ps v_result Ty.int x_result] [h_takes : Rds ps v_takes (Ty.slice Ty.int) x_takes] [h_owns : Rds ps v_owns (Ty.slice Ty.int) x_owns] [h_ins : Rds ps v_ins (Ty.slice tyIns) x_ins] : Rds ps (.agg #[v_params, v_vars, v_result, v_takes, v_owns, v_ins]) tyUnt ⟨x_params, x_vars, x_result, x_takes, x_owns, x_ins⟩ := ⟨.of fun F w h => co_rd (pair_rd (c1 := [_]) rfl (rdo (h_params.r.as F w h)) (pair_rd (c1 := [_]) rfl (rdo (h_vars.r.as F w h)) (pair_rd (c1 := [_]) rfl (rdo (h_result.r.as F w h)) (pair_rd (c1 := [_]) rfl (rdo (h_takes.r.as F w h)) (pair_rd (c1 := [_]) rfl (rdo (h_owns.r.as F w h)) (pair_rd (c1 := [_]) rfl (rdo (h_ins.r.as F w h)) unit_rd))))))⟩
instance {ps : List Pf} {v_classes v_globals v_units v_main : Value} {x_classes : List Go.Api.Layout} {x_globals : List Int} {x_units : List Go.Api.Unt} {x_main : Int} [OneV v_classes] [OneV v_globals] [OneV v_units] [OneV v_main] [h_classes : Rds ps v_classes (Ty.slice tyLayout) x_classes] [h_globals : Rds ps v_globals (Ty.slice Ty.int) x_globals] [h_units : Rds ps v_units (Ty.slice tyUnt) x_units] [h_main : Rds ps v_main Ty.int x_main] : Rds ps (.agg #[v_classes, v_globals, v_units, v_main]) tyRTg ⟨x_classes, x_globals, x_units, x_main⟩ := ⟨.of fun F w h => co_rd (pair_rd (c1 := [_]) rfl (rdo (h_classes.r.as F w h)) (pair_rd (c1 := [_]) rfl (rdo (h_globals.r.as F w h)) (pair_rd (c1 := [_]) rfl (rdo (h_units.r.as F w h)) (pair_rd (c1 := [_]) rfl (rdo (h_main.r.as F w h)) unit_rd))))⟩
instance {ps : List Pf} {v_beh_end_ v_beh_code v_beh_out v_beh_steps v_made v_gone v_live v_peak v_slack v_most : Value} {x_beh_end_ : Int} {x_beh_code : Int} {x_beh_out : List Int} {x_beh_steps : Int} {x_made : Int} {x_gone : Int} {x_live : Int} {x_peak : Int} {x_slack : Int} {x_most : Int} [OneV v_beh_end_] [OneV v_beh_code] [OneV v_beh_out] [OneV v_beh_steps] [OneV v_made] [OneV v_gone] [OneV v_live] [OneV v_peak] [OneV v_slack] [OneV v_most] [h_beh_end_ : Rds ps v_beh_end_ Ty.int x_beh_end_] [h_beh_code : Rds ps v_beh_code Ty.int x_beh_code] [h_beh_out : Rds ps v_beh_out (Ty.slice Ty.int) x_beh_out] [h_beh_steps : Rds ps v_beh_steps Ty.int x_beh_steps] [h_made : Rds ps v_made Ty.int x_made] [h_gone : Rds ps v_gone Ty.int x_gone] [h_live : Rds ps v_live Ty.int x_live] [h_peak : Rds ps v_peak Ty.int x_peak] [h_slack : Rds ps v_slack Ty.int x_slack] [h_most : Rds ps v_most Ty.int x_most] : Rds ps (.agg #[v_beh_end_, v_beh_code, v_beh_out, v_beh_steps, v_made, v_gone, v_live, v_peak, v_slack, v_most]) tyRan ⟨⟨x_beh_end_, x_beh_code, x_beh_out, x_beh_steps⟩, x_made, x_gone, x_live, x_peak, x_slack, x_most⟩ := ⟨.of fun F w h => co_rd (pair_rd (c1 := [_, _, _, _]) rfl (co_rd (pair_rd (c1 := [_]) rfl (rdo (h_beh_end_.r.as F w h)) (pair_rd (c1 := [_]) rfl (rdo (h_beh_code.r.as F w h)) (pair_rd (c1 := [_]) rfl (rdo (h_beh_out.r.as F w h)) (pair_rd (c1 := [_]) rfl (rdo (h_beh_steps.r.as F w h)) unit_rd))))) (pair_rd (c1 := [_]) rfl (rdo (h_made.r.as F w h)) (pair_rd (c1 := [_]) rfl (rdo (h_gone.r.as F w h)) (pair_rd (c1 := [_]) rfl (rdo (h_live.r.as F w h)) (pair_rd (c1 := [_]) rfl (rdo (h_peak.r.as F w h)) (pair_rd (c1 := [_]) rfl (rdo (h_slack.r.as F w h)) (pair_rd (c1 := [_]) rfl (rdo (h_most.r.as F w h)) unit_rd)))))))⟩
instance {ps : List Pf} {v_live v_many : Value} {x_live : Bool} {x_many : Int} [OneV v_live] [OneV v_many] [h_live : Rds ps v_live Ty.bool x_live] [h_many : Rds ps v_many Ty.int x_many] : Rds ps (.agg #[v_live, v_many]) tyRegion ⟨x_live, x_many⟩ := ⟨.of fun F w h => co_rd (pair_rd (c1 := [_]) rfl (rdo (h_live.r.as F w h)) (pair_rd (c1 := [_]) rfl (rdo (h_many.r.as F w h)) unit_rd))⟩
end Go.Proofs.YtomadjefdghliaaGreat
namespace Go.RX
open Go Go.RowKit Go.RR
section
variable {P : Program} {ops : Array Oper} {S : World → Prop} {hold : Nat → Bool}
end
end Go.RX
namespace Go.GX
open Go Go.RowKit Go.RR Go.RX
section
variable {P : Program} {n : Nat} {env : Env} {b : Base} {ps : List Pf} {hp hpS : List Res} {Q : Exit → Act → World → Prop} {K : Act → World → Prop}
end
end Go.GX
namespace Go.RX
open Go Go.RowKit Go.RR
inductive Tr where
 | lin : List (Nat × Bool) → Tr
 | br : List (Nat × Bool) → Tr → Tr
 | nil : Tr
 | alt : Nat → Tr → Tr → Tr
def Tr.size : Tr → Nat
 | .lin l => l.length
 | .br l t => l.length + t.size
 | .nil => 0
 | .alt _ t _ => t.size + 1
def Tr.isPlan : Tr → Bool
 | .lin _ => true
 | .br _ _ => true
 | _ => false
def Tr.idx : Tr → List Nat
 | .alt i _ r => i :: r.idx
 | _ => []
def GoK (P : Program) (ops : Array Oper) (Q : Exit → Act → World → Prop) (S : World → Prop) (hold : Nat → Bool) (i : Nat) (K : Act → World → Prop) : Act → World → Prop :=
 fun a w => wpOp P ops Q i (fun a' w' => (hold i = true → S w → S w') ∧ K a' w') a w
def AtEnd (Q : Exit → Act → World → Prop) (K : Act → World → Prop) : Exit → Act → World → Prop
 | .normal, a, w => K a w
 | e, a, w => Q e a w
def Both (K K' : Act → World → Prop) : Act → World → Prop := fun a w => K a w ∧ K' a w
def wpT (P : Program) (ops : Array Oper) (Q : Exit → Act → World → Prop) (S : World → Prop) (hold : Nat → Bool) : Tr → Act → World → Prop
 | .lin l => wpPlan P ops Q S hold l
 | .br l t => wpPlan P ops (AtEnd Q (wpT P ops Q S hold t)) S hold l
 | .nil => fun _ _ => True
 | .alt i t r => Both (GoK P ops Q S hold i (wpT P ops Q S hold t)) (wpT P ops Q S hold r)
def takesOk (ops : Array Oper) (hold : Nat → Bool) (fin : Array Bool → Bool) : List (Nat × Bool) → Array Bool → Bool
 | [], listed => fin listed
 | (i, true) :: r, listed => (Region.ready .any ops listed).contains i && freeX ops hold listed i && takesOk ops hold fin r (listed.setIfInBounds i true)
 | (_, false) :: _, _ => false
def Tr.ok (ops : Array Oper) (hold : Nat → Bool) : Tr → Nat → Array Bool → Bool
 | .lin l, n, listed => Nat.beq n l.length && planOk ops hold l listed
 | .br l t, n, listed => takesOk ops hold (fun m => (Region.ready .any ops m) == t.idx && t.ok ops hold (n - l.length) m) l listed && Nat.ble (l.length + 1) n && !t.idx.isEmpty
 | .nil, _, _ => true
 | .alt i t r, n, m => t.isPlan && t.ok ops hold (n - 1) (m.setIfInBounds i true) && r.ok ops hold n m
section
variable {P : Program} {ops : Array Oper} {S : World → Prop} {hold : Nat → Bool} {Q : Exit → Act → World → Prop}
theorem wpAnyX_takes (hs : Region.noSelect ops = true) (hQ : ∀ c a d v w, Q (.panic c) (Act.put a d v) w → Q (.panic c) a w) {fin : Array Bool → Bool} {m : Nat} {K : Act → World → Prop} (hK : ∀ listed a w, fin listed = true → K a w → wpAnyX P ops Q S hold m listed a w) :
  ∀ (l : List (Nat × Bool)) (listed : Array Bool) (a : Act) (w : World), takesOk ops hold fin l listed = true → wpPlan P ops (AtEnd Q K) S hold l a w → wpAnyX P ops Q S hold (l.length + m) listed a w
 | [], listed, a, w, hp, h => by rw [List.length_nil, Nat.zero_add]; exact hK listed a w hp h
 | (i, true) :: r, listed, a, w, hp, ⟨oi, v, hi, hy, hS, h⟩ => by
  simp only [takesOk, Bool.and_eq_true] at hp
  have := wpAnyX_first (P := P) (Q := Q) hi (Region.noSelect_spec hs) (fun c a w => hQ c a oi.dst v w) _ (Tame oi S) (r.length + m) listed a w (waits_spec (List.range ops.size) [] (fun j oj _ h => by simp at h)) (freeX_spec hi hp.1.2) (by simpa using hp.1.1) hy hS (wpAnyX_takes hs hQ hK r _ _ w hp.2 h)
  rw [List.length_cons, Nat.add_right_comm]; exact this
 | (_, false) :: _, _, _, _, hp, _ => by simp [takesOk] at hp
theorem plan_idx {t : Tr} (h : t.isPlan = true) : t.idx = [] ∧ t ≠ .nil := by
 cases t <;> simp_all [Tr.isPlan, Tr.idx]
theorem wpAnyX_of_tree (hs : Region.noSelect ops = true) (hQ : ∀ c a d v w, Q (.panic c) (Act.put a d v) w → Q (.panic c) a w) (t : Tr) : ∀ (n : Nat) (listed : Array Bool) (a : Act) (w : World),
  t.ok ops hold n listed = true → wpT P ops Q S hold t a w → (t.idx = [] → t ≠ .nil → wpAnyX P ops Q S hold n listed a w) ∧
   ∀ k ∈ t.idx, wpOp P ops Q k (fun a' w' => (hold k = true → S w → S w') ∧ wpAnyX P ops Q S hold (n - 1) (listed.setIfInBounds k true) a' w') a w := by
 induction t with
 | lin l =>
  intro n listed a w hp h
  unfold Tr.ok at hp
  rw [Bool.and_eq_true, beq_iff] at hp
  rw [hp.1]
  exact ⟨fun _ _ => wpAnyX_of_plan hs hQ l listed a w hp.2 h, fun k hk => by simp [Tr.idx] at hk⟩
 | br l t ih =>
  intro n listed a w hp h
  unfold Tr.ok at hp
  rw [Bool.and_eq_true, Bool.and_eq_true, Nat.ble_eq] at hp
  refine ⟨fun _ _ => ?_, fun k hk => by simp [Tr.idx] at hk⟩
  obtain ⟨m, rfl⟩ : ∃ m, n = l.length + (m + 1) := ⟨n - l.length - 1, by omega⟩
  refine wpAnyX_takes hs hQ (fin := fun q => (Region.ready .any ops q) == t.idx && t.ok ops hold (l.length + (m + 1) - l.length) q) (fun q a w hf hk => ?_) l listed a w hp.1.1 h
  rw [Bool.and_eq_true] at hf
  have hr : Region.ready .any ops q = t.idx := by simpa using hf.1
  have h2 := (ih _ _ _ _ hf.2 hk).2
  rw [Nat.add_sub_cancel_left, Nat.add_sub_cancel] at h2
  refine ⟨fun h0 => ?_, fun k hk' => ?_⟩
  ·rw [hr] at h0
   rw [h0] at hp
   simp at hp
  ·rw [hr] at hk'
   exact h2 k hk'
 | nil =>
  intro n listed a w _ _
  exact ⟨fun _ h => absurd rfl h, fun k hk => by simp [Tr.idx] at hk⟩
 | alt i t r ih1 ih2 =>
  intro n listed a w hp h
  unfold Tr.ok at hp
  rw [Bool.and_eq_true, Bool.and_eq_true] at hp
  obtain ⟨ha, hb⟩ : GoK P ops Q S hold i (wpT P ops Q S hold t) a w ∧ wpT P ops Q S hold r a w := h
  refine ⟨fun h0 => by simp [Tr.idx] at h0, fun k hk => ?_⟩
  rcases List.mem_cons.1 hk with rfl | hk
  ·refine wpOp_mono (fun a' w' h5 => ⟨h5.1, ?_⟩) ha
   exact (ih1 _ _ _ _ hp.1.2 h5.2).1 (plan_idx hp.1.1).1 (plan_idx hp.1.1).2
  ·exact (ih2 _ _ _ _ hp.2 hb).2 k hk
end
theorem drawnT {P : Program} {n : Nat} {env : Env} {w : World} {Q : Exit → Act → World → Prop} {id : Nat} {l : List Oper} (S : World → Prop) (hold : Nat → Bool) (t : Tr) [hm : Mixed P] (hs : Region.noSelect l.toArray = true)
  (hp : (t.isPlan && t.ok l.toArray hold l.length (Array.replicate l.length false)) = true)
  (h : E n env w.drew (wpT P l.toArray (NoPanic Q) S hold t)) : E n env w ((Code.region id l.toArray true).wp P Q) := by
 constructor; intro a ha
 refine wp_region_noPanic (wp_region_any hm.m (wpAny_of_X (S := S) (hold := hold) _ _ _ _ ?_))
 rw [Bool.and_eq_true] at hp
 have hlen : l.toArray.size = l.length := by simp
 rw [hlen]
 exact (wpAnyX_of_tree hs (fun c a d v w h => h) t _ _ a _ hp.2 (h.run a ha)).1 (plan_idx hp.1).1 (plan_idx hp.1).2
theorem goK {P : Program} {n : Nat} {env : Env} {w : World} {Q : Exit → Act → World → Prop} {S : World → Prop} {hold : Nat → Bool} {ops : Array Oper} {i : Nat} {o : Oper} {K : Act → World → Prop} (hi : nth ops.toList i = some o) (hw : Wanted n env ops o true)
  (h : OW P n env w o (Went S hold i K) Q) : E n env w (GoK P ops Q S hold i K) := by
 constructor; intro a ha
 have hi := (nth_array ops i).symm.trans hi
 have h1 : wpOp P ops Q i (Went S hold i K) a w := by
  unfold wpOp
  simp only [hi, hw a ha, if_true]
  exact .inl (h.run a ha)
 exact wpOp_mono (fun a' w' h2 => ⟨fun hh _ => h2.1 hh, h2.2⟩) h1
end Go.RX
namespace Go.GX
open Go Go.RowKit Go.RR Go.RX
section
variable {P : Program} {n : Nat} {env : Env} {b : Base} {ps : List Pf} {hp hpS : List Res} {Q : Exit → Act → World → Prop} {K : Act → World → Prop}
theorem drawnT {id : Nat} {l : List Oper} (hold : Nat → Bool) (t : Tr) [hm : Mixed P] (hs : Region.noSelect l.toArray = true) (hpl : (t.isPlan && t.ok l.toArray hold l.length (Array.replicate l.length false)) = true)
  (h : ∀ wd F, AllP F wd ps → AllR F wd [] → G n env b (Kept wd F :: ps) hp (wpT P l.toArray (NoPanic Q) (SS wd F []) hold t)) : G n env b ps hp ((Code.region id l.toArray true).wp P Q) := by
 constructor
 rintro w ⟨F, s⟩
 have s := s.drew
 refine RX.drawnT (SS w.drew F []) hold t hs hpl ((h w.drew F s.fs no_r).run w.drew ⟨F, s.upd, s.lt, s.old, fun p hp => ?_, s.rs, s.apF, s.apart, s.on⟩)
 rcases List.mem_cons.1 hp with rfl | hp
 ·exact ⟨Agree.refl _ _, fun _ _ h => h⟩
 ·exact s.fs p hp
variable {ops : Array Oper} {S : World → Prop} {hold : Nat → Bool}
theorem treeL {l : List (Nat × Bool)} (h_ : G n env b ps hp (wpPlan P ops Q S hold l)) : G n env b ps hp (wpT P ops Q S hold (.lin l)) := h_
theorem treeB {l : List (Nat × Bool)} {t : Tr} (h_ : G n env b ps hp (wpPlan P ops (AtEnd Q (wpT P ops Q S hold t)) S hold l)) : G n env b ps hp (wpT P ops Q S hold (.br l t)) := h_
theorem treeO {i : Nat} {t : Tr} (h_ : G n env b ps hp (GoK P ops Q S hold i (wpT P ops Q S hold t))) : G n env b ps hp (wpT P ops Q S hold (.alt i t .nil)) := ⟨fun w s => ⟨fun a ha => ⟨(h_.run w s).run a ha, trivial⟩⟩⟩
theorem treeA {i : Nat} {t r : Tr} (h1 : G n env b ps hp (GoK P ops Q S hold i (wpT P ops Q S hold t))) (h2 : G n env b ps hp (wpT P ops Q S hold r)) : G n env b ps hp (wpT P ops Q S hold (.alt i t r)) := ⟨fun w s => ⟨fun a ha => ⟨(h1.run w s).run a ha, (h2.run w s).run a ha⟩⟩⟩
theorem endK (h_ : G n env b ps hp K) : G n env b ps hp (wpPlan P ops (AtEnd Q K) S hold []) := h_
theorem gok {i : Nat} {o : Oper} (h : GO P n env b ps hp o (Went S hold i K) Q) (hi : nth ops.toList i = some o := by exact rfl) (hw : Wanted n env ops o true := by first | exact Go.RX.plain rfl | exact Go.RX.guarded rfl rfl rfl (by with_reducible rfl)) :
  G n env b ps hp (GoK P ops Q S hold i K) := ⟨fun w s => RX.goK hi hw (h.run w s)⟩
theorem s_gok {i : Nat} (h_ : G n env b ps hp (GoK P ops Q S hold i K)) : G n env b ps hp (GoK P ops Q S hold i K) := h_
end
end Go.GX
