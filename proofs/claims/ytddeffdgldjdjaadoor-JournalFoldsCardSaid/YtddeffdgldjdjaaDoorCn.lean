/- From the functions' promises to the rows: JournalFolds. -/
import Derived.Test.YtddeffdgldjdjaaDoorCm
import Derived.Test.YtddeffdgldjdjaaDoorNr
